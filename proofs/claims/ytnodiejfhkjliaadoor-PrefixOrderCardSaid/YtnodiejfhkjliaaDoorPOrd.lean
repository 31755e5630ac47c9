/- Plain: the bytes of two prefixes stand in the order of Compare. -/
import Derived.Test.YtnodiejfhkjliaaDoorCmpB
import Derived.Test.YtnodiejfhkjliaaDoorBytesA
namespace Go.Proofs.YtnodiejfhkjliaaDoor.Pf
open Go.RowKit Go.Proofs.YtnodiejfhkjliaaDoor.Wd Go.Proofs.YtnodiejfhkjliaaDoor.Px Go.Proofs.YtnodiejfhkjliaaDoor.By Go.Proofs.YtnodiejfhkjliaaDoor.Pl

/-- bytes of one length stand in the order of what they say -/
theorem lt8_ofB (l : List UInt8) : ∀ m : List UInt8, l.length = m.length → lt8 l m = decide (ofB l < ofB m) := by
  have hcons : ∀ (c : UInt8) (l : List UInt8), ofB (c :: l) = c.toNat * 256 ^ l.length + ofB l := by
    intro c l
    have := snoc_ind (P := fun l => ofB (c :: l) = c.toNat * 256 ^ l.length + ofB l) (by simp [ofB, ofD]) (fun l d ih => by
      rw [← List.cons_append, ofB_snoc, ofB_snoc, ih, List.length_append, List.length_singleton, Nat.pow_succ]
      rw [Nat.add_mul, Nat.mul_assoc, Nat.add_assoc]) l
    exact this
  induction l with
  | nil => intro m h; cases m with
    | nil => rfl
    | cons b m => simp at h
  | cons a l ih =>
    intro m h
    cases m with
    | nil => simp at h
    | cons b m =>
      have h' : l.length = m.length := by simpa using h
      rw [lt8, hcons, hcons, h']
      have h1 := ofB_lt l
      have h2 := ofB_lt m
      rw [h'] at h1
      by_cases e : a = b
      · rw [if_pos e, ih m h', e]
        congr 1
        simp
      · rw [if_neg e]
        have hne : a.toNat ≠ b.toNat := fun h => e (UInt8.toNat_inj.1 h)
        by_cases hlt : a.toNat < b.toNat
        · have : (a.toNat + 1) * 256 ^ m.length ≤ b.toNat * 256 ^ m.length := Nat.mul_le_mul_right _ hlt
          rw [Nat.add_mul] at this
          rw [decide_eq_true hlt, decide_eq_true (by omega)]
        · have : (b.toNat + 1) * 256 ^ m.length ≤ a.toNat * 256 ^ m.length := Nat.mul_le_mul_right _ (by omega)
          rw [Nat.add_mul] at this
          rw [decide_eq_false hlt, decide_eq_false (by omega)]

theorem cmI_lt (a b : Int) : cmI a b < 0 ↔ a < b := by
  unfold cmI; (repeat' split) <;> omega
theorem cmI_eq (a b : Int) : cmI a b = 0 ↔ a = b := by
  unfold cmI; (repeat' split) <;> omega
theorem cmI_anti (a b : Int) : cmI b a = - cmI a b := by
  unfold cmI; (repeat' split) <;> omega
theorem cmP_lt (f : Int) (hi lo : Nat) (b f2 : Int) (hi2 lo2 : Nat) (b2 : Int) : cmP f hi lo b f2 hi2 lo2 b2 < 0 ↔ f < f2 ∨ (f = f2 ∧ (b < b2 ∨ (b = b2 ∧ (hi < hi2 ∨ (hi = hi2 ∧ lo < lo2))))) := by
  have h1 := cmI_lt f f2
  have h2 := cmI_lt b b2
  have h3 := cmI_lt hi hi2
  have h4 := cmI_lt lo lo2
  have k1 := cmI_eq f f2
  have k2 := cmI_eq b b2
  have k3 := cmI_eq hi hi2
  unfold cmP
  simp only [fnz]
  (repeat' split) <;> omega
theorem cmP_anti (f : Int) (hi lo : Nat) (b f2 : Int) (hi2 lo2 : Nat) (b2 : Int) : cmP f2 hi2 lo2 b2 f hi lo b = - cmP f hi lo b f2 hi2 lo2 b2 := by
  unfold cmP
  simp only [fnz, cmI_anti f f2, cmI_anti b b2, cmI_anti hi hi2, cmI_anti lo lo2]
  (repeat' split) <;> omega
theorem cmP_small (f : Int) (hi lo : Nat) (b f2 : Int) (hi2 lo2 : Nat) (b2 : Int) : -1 ≤ cmP f hi lo b f2 hi2 lo2 b2 ∧ cmP f hi lo b f2 hi2 lo2 b2 ≤ 1 := by
  unfold cmP cmI
  simp only [fnz]
  (repeat' split) <;> omega
theorem lt8_self (l : List UInt8) : lt8 l l = false := by
  induction l with
  | nil => rfl
  | cons a l ih => rw [lt8, if_pos rfl, ih]
theorem lt8_cons (a b : UInt8) (l m : List UInt8) : lt8 (a :: l) (b :: m) = true ↔ a.toNat < b.toNat ∨ (a.toNat = b.toNat ∧ lt8 l m = true) := by
  rw [lt8]
  split
  · rename_i h; subst h; simp
  · rename_i h
    have : a.toNat ≠ b.toNat := fun e => h (UInt8.toNat_inj.1 e)
    simp [this]
theorem ofB_app (l m : List UInt8) : ofB (l ++ m) = ofB l * 256 ^ m.length + ofB m := by
  induction m using snoc_ind with
  | h0 => simp [ofB, ofD]
  | h1 m d ih => rw [← List.append_assoc, ofB_snoc, ih, ofB_snoc, List.length_append, List.length_singleton, Nat.pow_succ, Nat.add_mul, Nat.mul_assoc]; omega
theorem lt8_be (k n m : Nat) (hn : n < 256 ^ k) (hm : m < 256 ^ k) : lt8 (be k n) (be k m) = true ↔ n < m := by
  rw [lt8_ofB _ _ (by rw [be_len, be_len]), ofB_be k n hn, ofB_be k m hm]; simp
theorem lt8_be2 (hi lo hi2 lo2 : Nat) (h1 : hi < 18446744073709551616) (h2 : lo < 18446744073709551616) (h3 : hi2 < 18446744073709551616) (h4 : lo2 < 18446744073709551616) :
    lt8 (be 8 hi ++ be 8 lo) (be 8 hi2 ++ be 8 lo2) = true ↔ hi < hi2 ∨ (hi = hi2 ∧ lo < lo2) := by
  rw [lt8_ofB _ _ (by simp [be_len]), ofB_app, ofB_app, be_len, be_len, ofB_be 8 hi (by omega), ofB_be 8 lo (by omega), ofB_be 8 hi2 (by omega), ofB_be 8 lo2 (by omega)]
  simp only [decide_eq_true_eq]
  omega

/-- the four forms: a valid prefix's bytes -/
theorem pB_form {f : Int} {hi lo : Nat} {b : Int} (h : vP f hi lo b = true) : 0 ≤ b ∧ b ≤ 128 ∧ ((f = 4 ∧ hi = 0 ∧ lo < 4294967296 ∧ pB f hi lo b = 4 :: UInt8.ofNat b.toNat :: be 4 lo) ∨ (f = 6 ∧ pB f hi lo b = 6 :: UInt8.ofNat b.toNat :: (be 8 hi ++ be 8 lo))) := by
  obtain ⟨ha, hb0, hbw, -⟩ := (vP_iff f hi lo b).1 h
  have hw := wid_le f
  refine ⟨hb0, by omega, ?_⟩
  rw [pB_yes h]
  rcases (vA_iff f hi lo).1 ha with rfl | ⟨rfl, rfl, hl⟩
  · refine .inr ⟨rfl, ?_⟩
    unfold paB
    rw [if_pos ha]
    rfl
  · exact .inl ⟨rfl, rfl, hl, by rw [paB_4 hl]; rfl⟩
theorem nat8 (b : Int) (h0 : 0 ≤ b) (h1 : b ≤ 128) : (UInt8.ofNat b.toNat).toNat = b.toNat := by
  rw [UInt8.toNat_ofNat', Nat.mod_eq_of_lt (by omega)]
theorem ord_key {f : Int} {hi lo : Nat} {b f2 : Int} {hi2 lo2 : Nat} {b2 : Int} (h : vP f hi lo b = true) (h' : vP f2 hi2 lo2 b2 = true)
    (h1 : hi < 18446744073709551616) (h2 : lo < 18446744073709551616) (h3 : hi2 < 18446744073709551616) (h4 : lo2 < 18446744073709551616) :
    lt8 (pB f hi lo b) (pB f2 hi2 lo2 b2) = true ↔ cmP f hi lo b f2 hi2 lo2 b2 < 0 := by
  rw [cmP_lt]
  obtain ⟨b0, b1, hf⟩ := pB_form h
  obtain ⟨c0, c1, hf2⟩ := pB_form h'
  have e4 : (4 : UInt8).toNat = 4 := rfl
  have e6 : (6 : UInt8).toNat = 6 := rfl
  rcases hf with ⟨rfl, rfl, hl, e⟩ | ⟨rfl, e⟩ <;> rcases hf2 with ⟨rfl, rfl, hl2, e'⟩ | ⟨rfl, e'⟩ <;> rw [e, e', lt8_cons, lt8_cons, nat8 b b0 b1, nat8 b2 c0 c1]
  · rw [lt8_be 4 lo lo2 (by omega) (by omega)]; omega
  · rw [e4, e6]; omega
  · rw [e4, e6]; omega
  · rw [lt8_be2 hi lo hi2 lo2 h1 h2 h3 h4]; omega
theorem ord_all {f : Int} {hi lo : Nat} {b f2 : Int} {hi2 lo2 : Nat} {b2 : Int} (h : vP f hi lo b = true) (h' : vP f2 hi2 lo2 b2 = true)
    (h1 : hi < 18446744073709551616) (h2 : lo < 18446744073709551616) (h3 : hi2 < 18446744073709551616) (h4 : lo2 < 18446744073709551616) :
    lt8 (pB f hi lo b) (pB f2 hi2 lo2 b2) = decide (cmP f hi lo b f2 hi2 lo2 b2 < 0) ∧ lt8 (pB f2 hi2 lo2 b2) (pB f hi lo b) = decide (0 < cmP f hi lo b f2 hi2 lo2 b2) ∧
    decide ((pB f hi lo b).take (min (pB f hi lo b).length (pB f2 hi2 lo2 b2).length) = (pB f2 hi2 lo2 b2).take (min (pB f hi lo b).length (pB f2 hi2 lo2 b2).length)) = decide (cmP f hi lo b f2 hi2 lo2 b2 = 0) := by
  have k1 := ord_key h h' h1 h2 h3 h4
  have k2 := ord_key h' h h3 h4 h1 h2
  rw [cmP_anti f hi lo b f2 hi2 lo2 b2] at k2
  have hlt := cmP_lt f hi lo b f2 hi2 lo2 b2
  have hgt := cmP_lt f2 hi2 lo2 b2 f hi lo b
  rw [cmP_anti f hi lo b f2 hi2 lo2 b2] at hgt
  refine ⟨by rw [Bool.eq_iff_iff, k1]; simp, by rw [Bool.eq_iff_iff, k2]; simp, ?_⟩
  rw [decide_eq_decide]
  have hsame : f = f2 → (pB f hi lo b).length = (pB f2 hi2 lo2 b2).length := by
    intro e
    obtain ⟨-, -, hf⟩ := pB_form h
    obtain ⟨-, -, hf2⟩ := pB_form h'
    rcases hf with ⟨rfl, -, -, e1⟩ | ⟨rfl, e1⟩ <;> rcases hf2 with ⟨rfl, -, -, e2⟩ | ⟨rfl, e2⟩ <;> rw [e1, e2] <;> first | (simp [be_len]; done) | (exfalso; omega)
  constructor
  · intro ht
    by_cases hf : f = f2
    · have hl := hsame hf
      rw [hl, Nat.min_self, List.take_length, ← hl, List.take_length] at ht
      rw [ht, lt8_self] at k1 k2
      have a1 : ¬ (cmP f hi lo b f2 hi2 lo2 b2 < 0) := fun x => by have := k1.2 x; cases this
      have a2 : ¬ (-cmP f hi lo b f2 hi2 lo2 b2 < 0) := fun x => by have := k2.2 x; cases this
      omega
    · exfalso
      obtain ⟨-, -, hp⟩ := pB_form h
      obtain ⟨-, -, hq⟩ := pB_form h'
      rcases hp with ⟨rfl, -, -, e1⟩ | ⟨rfl, e1⟩ <;> rcases hq with ⟨rfl, -, -, e2⟩ | ⟨rfl, e2⟩
      · exact hf rfl
      · rw [e1, e2] at ht
        simp [be_len] at ht
      · rw [e1, e2] at ht
        simp [be_len] at ht
      · exact hf rfl
  · intro hc
    have e : f = f2 ∧ b = b2 ∧ hi = hi2 ∧ lo = lo2 := by omega
    obtain ⟨rfl, rfl, rfl, rfl⟩ := e
    rfl

end Go.Proofs.YtnodiejfhkjliaaDoor.Pf
