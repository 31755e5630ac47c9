/- The walk of StampSteps. -/
import Derived.Test.YtpjgebbmbiohbaaDoorLawsC1
import Derived.Test.YtpjgebbmbiohbaaDoorLawsC2
import Derived.Test.YtpjgebbmbiohbaaDoorLawsC3
import Derived.Test.YtpjgebbmbiohbaaDoorLawsC4
import Derived.Test.YtpjgebbmbiohbaaDoorLawsC5
import Derived.Deep.DeepCutAuto
namespace Go.Proofs.YtpjgebbmbiohbaaDoor.St
open Go.RowKit Go.Proofs.YtpjgebbmbiohbaaDoor.Wd Go.Proofs.YtpjgebbmbiohbaaDoor.Pl Go.Proofs.YtpjgebbmbiohbaaDoor.Px Go.Proofs.YtpjgebbmbiohbaaDoor.En Go.Proofs.YtpjgebbmbiohbaaDoor.By
theorem nx_on {s n p q : Int} (h0 : 0 ≤ s) (h1 : s ≤ 9223372036854775807) (h2 : 0 ≤ n) (h3 : n < 999999999) (hp : p = s) (hq : q = n + 1) : Nx s n p q true :=
  ⟨h0, h1, h2, by omega, .inr (.inr ⟨rfl, h3, hp, hq⟩)⟩
theorem nx_up {s n p q : Int} (h0 : 0 ≤ s) (h1 : s < 9223372036854775807) (hn : n = 999999999) (hp : p = s + 1) (hq : q = 0) : Nx s n p q true :=
  ⟨h0, by omega, by omega, by omega, .inr (.inl ⟨rfl, h1, hn, hp, hq⟩)⟩
/-- nothing lies between a stamp and its next; one next has one stamp -/
theorem nx_gap {a b na nb c d : Int} (h : Nx a b na nb true) (hd : d ≤ 999999999) (hd0 : 0 ≤ d) : Is (lss a b na nb) true ∧ Is (lss a b c d && lss c d na nb) false := by
  unfold Is
  obtain ⟨h1, h2, h3, h4, ⟨h, _⟩ | ⟨-, h, rfl, rfl, rfl⟩ | ⟨-, h, rfl, rfl⟩⟩ := h
  · cases h
  · constructor
    · simp [lss]; omega
    · rw [← Bool.not_eq_true]; simp [lss]; omega
  · constructor
    · simp [lss]; omega
    · rw [← Bool.not_eq_true]; simp [lss]; omega
theorem nx_one {a b na nb c d p q : Int} {Z : Bool} (h : Nx a b na nb true) (h' : Nx c d p q Z) : Is (Z && (sam a b c d != sam na nb p q)) false := by
  unfold Is
  cases Z
  · rfl
  · have e : sam a b c d = sam na nb p q := by
      obtain ⟨h1, h2, h3, h4, ⟨h, _⟩ | ⟨-, h, rfl, rfl, rfl⟩ | ⟨-, h, rfl, rfl⟩⟩ := h
      · cases h
      · obtain ⟨g1, g2, g3, g4, ⟨g, _⟩ | ⟨-, g, rfl, rfl, rfl⟩ | ⟨-, g, rfl, rfl⟩⟩ := h'
        · cases g
        · rw [Bool.eq_iff_iff]; simp [sam] <;> omega
        · rw [Bool.eq_iff_iff]; simp [sam] <;> omega
      · obtain ⟨g1, g2, g3, g4, ⟨g, _⟩ | ⟨-, g, rfl, rfl, rfl⟩ | ⟨-, g, rfl, rfl⟩⟩ := h'
        · cases g
        · rw [Bool.eq_iff_iff]; simp [sam] <;> omega
        · rw [Bool.eq_iff_iff]; simp [sam] <;> omega
    rw [e]; simp
theorem stampSteps_law (s n t m : Int) (w : World) (hE : Env w) (hs1 : -9223372036854775808 ≤ s) (hs2 : s ≤ 9223372036854775807)
    (ht1 : -9223372036854775808 ≤ t) (ht2 : t ≤ 9223372036854775807) :
    Calls Tryd.prog 10 #[.agg #[.int .i64 s, .int .i64 n], .agg #[.int .i64 t, .int .i64 m]] w fun e w' => e = .returned (.bool true) ∧ Below w.heap.size w w' := by
  obtain ⟨a, b, hf⟩ : ∃ a b, Fits s n a b := ⟨_, _, hs1, hs2, rfl, rfl⟩
  obtain ⟨c, d, hg⟩ : ∃ c d, Fits t m c d := ⟨_, _, ht1, ht2, rfl, rfl⟩
  obtain ⟨ha0, ha1, hb0, hb1⟩ := hf.bds
  obtain ⟨hc0, hc1, hd0, hd1⟩ := hg.bds
  obtain ⟨p, q, Z, hN2⟩ := nx_any c d hc0 hc1 hd0 hd1
  by_cases hb : b = 999999999
  · obtain rfl : b = 999999999 := hb
    by_cases ha : a = 9223372036854775807
    · obtain rfl : a = 9223372036854775807 := ha
      exact steps_last s n t m c d w hE hf hg ⟨ha0, ha1, hb0, hb1, .inl ⟨rfl, rfl, rfl, rfl, rfl⟩⟩ (nx_on ha0 ha1 (by omega) (by omega) rfl rfl)
    · have hN : Nx a 999999999 (a + 1) 0 true := nx_up ha0 (by omega) rfl rfl rfl
      obtain ⟨g1, g2⟩ := nx_gap (c := c) hN hd1 hd0
      exact steps_up s n t m c d a w hE hf hg hN _ _ Z _ _ p q hN2 g1 rfl rfl rfl rfl g2 (nx_one hN hN2) (nx_on ha0 ha1 (by omega) (by omega) rfl rfl) ha0 (by simpa using ha)
  · have hN : Nx a b a (b + 1) true := nx_on ha0 ha1 hb0 (by omega) rfl rfl
    obtain ⟨g1, g2⟩ := nx_gap (c := c) hN hd1 hd0
    by_cases hz : b = 0
    · obtain rfl : b = 0 := hz
      by_cases ha : a = 0
      · obtain rfl : a = 0 := ha
        exact steps_zero s n t m c d w hE hf hg hN _ _ Z _ _ p q hN2 g1 rfl rfl rfl rfl g2 (nx_one hN hN2)
      · exact steps_low s n t m c d a w hE hf hg hN _ _ Z _ _ p q hN2 g1 rfl rfl rfl rfl g2 (nx_one hN hN2) (nx_up (by omega) (by omega) rfl (by omega) rfl) (by omega) ha1 (by simpa using ha)
    · exact steps_high s n t m c d a b w hE hf hg hN _ _ Z _ _ p q hN2 g1 rfl rfl rfl rfl g2 (nx_one hN hN2) (nx_on ha0 ha1 (by omega) (by omega) rfl (by omega)) ha0 ha1 (by omega) (by omega) (by simpa using hz) (by simpa using hb)

end Go.Proofs.YtpjgebbmbiohbaaDoor.St
