/- Law: blanks, comments and empty lines change nothing but the lines' numbers. -/
import Derived.Test.YtpkmekdpmkfcdaaGreatDoorSsD
import Derived.Lib.SlBytesConst
namespace Go.Proofs.YtpkmekdpmkfcdaaGreatDoor.Sr
set_option linter.unusedVariables false
set_option linter.unusedSimpArgs false
open Go.RowKit Go.Proofs.YtpkmekdpmkfcdaaGreatDoor.Wd Go.Proofs.YtpkmekdpmkfcdaaGreatDoor.Px Go.Proofs.YtpkmekdpmkfcdaaGreatDoor.By Go.Proofs.YtpkmekdpmkfcdaaGreatDoor.En Go.Proofs.YtpkmekdpmkfcdaaGreatDoor.Pl Go.Proofs.YtpkmekdpmkfcdaaGreatDoor.Pf Go.Proofs.YtpkmekdpmkfcdaaGreatDoor.Sc

def plC (c : UInt8) : Bool := !decide (c = 35) && (decide (c = 10) || decide (c = 32) || okC c)
theorem plainS_iff (t : List UInt8) : t.all plC = true ↔ plainS t := by
  unfold plainS
  rw [List.all_eq_true]
  constructor
  · intro h c hc
    have := h c hc
    unfold plC at this
    simp only [Bool.and_eq_true, Bool.not_eq_true', decide_eq_false_iff_not, Bool.or_eq_true, decide_eq_true_eq] at this
    exact ⟨this.1, by rcases this.2 with (h | h) | h; exact .inl h; exact .inr (.inl h); exact .inr (.inr h)⟩
  · intro h c hc
    obtain ⟨h1, h2⟩ := h c hc
    unfold plC
    simp only [Bool.and_eq_true, Bool.not_eq_true', decide_eq_false_iff_not, Bool.or_eq_true, decide_eq_true_eq]
    exact ⟨h1, by rcases h2 with h | h | h; exact .inl (.inl h); exact .inl (.inr h); exact .inr h⟩
theorem all_snoc {t : List UInt8} {k : Nat} {c : UInt8} (h : t[k]? = some c) (ha : (t.take k).all plC = true) (hc : plC c = true) : (t.take (k + 1)).all plC = true := by
  rw [(take_snoc h).1, List.all_append, ha]; simp [hc]
theorem all_not {t : List UInt8} {k : Nat} {c : UInt8} (h : t[k]? = some c) (hc : plC c = false) : t.all plC = false := by
  rw [List.all_eq_false]; exact ⟨c, List.mem_of_getElem? h, by rw [hc]; simp⟩
theorem plain_any (l : List UInt8) (hs : l.length ≤ 1000000) (w : World) :
    Calls Tryz.prog 26 #[.string ⟨l.toArray⟩] w fun e w' => e = .returned (.bool (l.all plC)) ∧ Below w.heap.size w w' := by
  obtain ⟨s, hse⟩ : ∃ s : ByteArray, s = ⟨l.toArray⟩ := ⟨_, rfl⟩
  have hsz : s.size = l.length := by subst hse; rfl
  have hat : ∀ (k : Nat) (h1 : k < s.size), l[k]? = some s[k] := by subst hse; intro k h1; exact List.getElem?_eq_getElem h1
  have HSZ := Lib.hid hsz
  have HAT := Lib.hid hat
  have hs2 : s.size ≤ 1000000 := by omega
  rw [← hse]
  clear hse hsz hat
  go_enter Tryz.func26, Tryz.ntmps26
  go_wp2
  go_loopw [3] (fun i wr => ∃ k : Nat, k ≤ s.size ∧ i = .int .i64 (k : Int) ∧ Hid ((l.take k).all plC = true) ∧ Below w.heap.size w wr) (fun i _ => s.size - (intOf i).toNat)
  case atStart => exact ⟨0, Nat.zero_le _, rfl, Lib.hid rfl, Below.refl _ _⟩
  case round =>
    obtain ⟨k, hk, rfl, HA, hbl⟩ := hrel
    by_cases hlt : k < s.size
    · have i1 : (k : Int) < (s.size : Int) := by omega
      have hg := HAT.out k hlt
      obtain ⟨x, hx⟩ : ∃ x : Int, ((s[k]'hlt).toNat : Int) = x := ⟨_, rfl⟩
      have hxb : x < 256 := by have := (s[k]'hlt).toNat_lt; omega
      have hx0 : 0 ≤ x := by omega
      by_cases q1 : x = 35
      · have HN : Hid (l.all plC = false) := Lib.hid (all_not hg (by unfold plC; rw [show s[k]'hlt = 35 from UInt8.toNat_inj.1 (by show _ = 35; omega)]; decide))
        subst q1
        clear hg
        go_wp2
        go_ret
        exact ⟨by rw [HN.out]; rfl, hbl⟩
      · by_cases q2 : x = 10
        · have HN : Hid ((l.take (k + 1)).all plC = true) := Lib.hid (all_snoc hg HA.out (by unfold plC; rw [show s[k]'hlt = 10 from UInt8.toNat_inj.1 (by show _ = 10; omega)]; decide))
          subst q2
          clear hg
          go_wp2
          go_roundw
          case rel => exact ⟨k + 1, by omega, by go_num, HN, hbl⟩
          case measure => simp [intOf]; omega
        · by_cases q3 : x = 32
          · have HN : Hid ((l.take (k + 1)).all plC = true) := Lib.hid (all_snoc hg HA.out (by unfold plC; rw [show s[k]'hlt = 32 from UInt8.toNat_inj.1 (by show _ = 32; omega)]; decide))
            subst q3
            clear hg
            go_wp2
            go_roundw
            case rel => exact ⟨k + 1, by omega, by go_num, HN, hbl⟩
            case measure => simp [intOf]; omega
          · have f1 : (x == 35) = false := by rw [beq_eq_false_iff_ne]; exact q1
            have f2 : (x != 10) = true := by rw [bne_iff_ne]; exact q2
            have f3 : (x != 32) = true := by rw [bne_iff_ne]; exact q3
            have n1 : s[k]'hlt ≠ 35 := fun e => q1 (by rw [← hx, e]; rfl)
            have n2 : s[k]'hlt ≠ 10 := fun e => q2 (by rw [← hx, e]; rfl)
            have n3 : s[k]'hlt ≠ 32 := fun e => q3 (by rw [← hx, e]; rfl)
            by_cases q4 : x < 33
            · have HN : Hid (l.all plC = false) := Lib.hid (all_not hg (by
                unfold plC
                simp only [n1, n2, n3, decide_false, Bool.not_false, Bool.true_and, Bool.false_or]
                exact decide_eq_false (by omega)))
              clear hg n1 n2 n3 q1 q2 q3
              go_wp2
              go_ret
              exact ⟨by rw [HN.out]; rfl, hbl⟩
            · by_cases q5 : 126 < x
              · have HN : Hid (l.all plC = false) := Lib.hid (all_not hg (by
                  unfold plC
                  simp only [n1, n2, n3, decide_false, Bool.not_false, Bool.true_and, Bool.false_or]
                  exact decide_eq_false (by omega)))
                clear hg n1 n2 n3 q1 q2 q3
                go_wp2
                go_ret
                exact ⟨by rw [HN.out]; rfl, hbl⟩
              · have HN : Hid ((l.take (k + 1)).all plC = true) := Lib.hid (all_snoc hg HA.out (by
                  unfold plC
                  simp only [n1, n2, n3, decide_false, Bool.not_false, Bool.true_and, Bool.false_or]
                  exact decide_eq_true (by omega)))
                clear hg n1 n2 n3 q1 q2 q3
                go_wp2
                go_roundw
                case rel => exact ⟨k + 1, by omega, by go_num, HN, hbl⟩
                case measure => simp [intOf]; omega
    · obtain rfl : k = s.size := by omega
      have i1 : ¬ (s.size : Int) < (s.size : Int) := by omega
      have HN : Hid (l.all plC = true) := Lib.hid (by have := HA.out; rwa [List.take_of_length_le (by rw [HSZ.out]; exact Nat.le_refl _)] at this)
      go_wp2
      go_ret
      exact ⟨by rw [HN.out]; rfl, hbl⟩
/-- a row that is owned, or a literal's bytes without room -/
def LitOr (w : World) (base : Nat) (v : Value) (n : Nat) (xs : List Value) : Prop :=
  w.ownsRow base 5 1 v n xs ∨ (xs.length = n ∧ ∃ g, v = .slice (some ⟨g, 0, none⟩) n n ∧ base ≤ g ∧ g < w.heap.size ∧ ∀ j u, xs[j]? = some u → w.cell? ((⟨g, 0, none⟩ : Addr).add j) = some u)
theorem LitOr.alloc {w : World} {base n : Nat} {v : Value} {xs : List Value} (h : LitOr w base v n xs) (o : Obj) : LitOr (w.alloc o) base v n xs := by
  rcases h with h | ⟨h1, g, h2, h3, h4, h5⟩
  · exact .inl (h.alloc o)
  · refine .inr ⟨h1, g, h2, h3, by simp; omega, fun j u hu => ?_⟩
    have e : (⟨g, 0, none⟩ : Addr).add j = ⟨g, j, none⟩ := by unfold Addr.add; split <;> simp_all
    have := h5 j u hu
    rw [e] at this ⊢
    exact ((one w o).cell (p := ⟨g, j, none⟩) h4).trans this
theorem LitOr.len {w : World} {base n : Nat} {v : Value} {xs : List Value} (h : LitOr w base v n xs) : xs.length = n := by
  rcases h with h | ⟨h1, -⟩
  · have := h.1; simpa using this
  · exact h1
theorem LitOr.form {w : World} {base n : Nat} {v : Value} {xs : List Value} (h : LitOr w base v n xs) (hn : 0 < n) : ∃ g c, v = .slice (some ⟨g, 0, none⟩) n c ∧ ∀ j u, xs[j]? = some u → w.cell? ((⟨g, 0, none⟩ : Addr).add j) = some u := by
  rcases h with h | ⟨h1, g, h2, h3, h4, h5⟩
  · obtain ⟨g, cap, e, -, -⟩ := h.form hn
    subst e
    exact ⟨g, cap, rfl, h.cells (g := g) rfl⟩
  · exact ⟨g, n, h2, h5⟩
theorem LitOr.low {w : World} {base n : Nat} {v : Value} {xs : List Value} (h : LitOr w base v n xs) : ∀ k, v.ownBlock = some k → base ≤ k := by
  rcases h with h | ⟨h1, g, h2, h3, h4, h5⟩
  · exact fun k hk => (h.lt k hk).1
  · subst h2
    intro k hk
    simp [Value.ownBlock] at hk
    subst hk; exact h3
theorem append_lit {P : Program} {w : World} (base : Nat) (t ty e : TypeId) (i : TypeInfo) (z : Value) (ht : P.underlying t = some (.slice e)) (hi : P.info? e = some i) (hz : i.zero = some z) (hs1 : i.size = 1) (hb1 : i.bytes = 1) (hzs : z.cells.size = 1)
    (g n : Nat) (xs : List Value) (hxl : xs.length = n) (holds : ∀ j u, xs[j]? = some u → w.cell? ((⟨g, 0, none⟩ : Addr).add j) = some u)
    (a : Addr) (m c : Nat) (news : List Value) (hl : news.length = m) (hnews : ∀ j u, news[j]? = some u → w.cell? (a.add j) = some u) (hm : 0 < m) (h63 : n + m ≤ 100000000) (hbase : base ≤ w.heap.size) :
    ∃ v' w', (Builtin.append_ #[t, t] ty #[.slice (some ⟨g, 0, none⟩) n n, .slice (some a) m c]).run P w = .ok v' w' ∧ w'.ownsRow base e 1 v' (n + m) (xs ++ news) ∧ w.grownBy w' (some g) := by
  have hr := run_append_grow (P := P) w t ty e i z ht hi hz ⟨g, 0, none⟩ n n xs (by rw [hs1]; omega) holds a m c news (by rw [hs1]; omega) hnews (by omega) (by omega) (growslice_fits (by omega) (by rw [hb1]; omega))
  have hge := grownCap_ge w (n + m) n e
  have hcm : grownCap w (n + m) n e ≤ maxLen := grownCap_le_maxLen w (n + m) n e (by unfold maxLen; omega)
  have hlen : (xs ++ news).length = (n + m) * 1 := by rw [List.length_append, hxl, hl]; omega
  refine ⟨_, _, hr, ⟨hlen, .inr ⟨w.heap.size, _, _, rfl, hbase, heap_alloc_new w.drew _, hge, hcm, ?_, ?_⟩⟩, ⟨rfl, rfl, rfl, by simp, fun k hk _ => heap_alloc_old w.drew _ hk⟩⟩
  · simp only [Array.size_append, List.size_toArray, size_zeroCells, hzs, hxl, hl]
    omega
  · simp only [Array.toList_append, List.append_assoc]
    rw [← List.append_assoc, ← hlen]
    exact List.take_left
theorem LitOr.app {w : World} {base n : Nat} {v : Value} {xs : List Value} (h : LitOr w base v n xs) (i : TypeInfo) (hi : Tryz.prog.info? 5 = some i) (hz : i.zero = some (.int .u8 0)) (hs1 : i.size = 1) (hb1 : i.bytes = 1)
    (a : Addr) (m c : Nat) (news : List Value) (hl : news.length = m) (hnews : ∀ j u, news[j]? = some u → w.cell? (a.add j) = some u) (h1 : ∀ u ∈ news, u.oneCell' = true) (hm : 0 < m) (h63 : n + m ≤ 100000000) (hbase : base ≤ w.heap.size) (ty : TypeId) :
    ∃ v' w', (Builtin.append_ #[85, 85] ty #[v, .slice (some a) m c]).run Tryz.prog w = .ok v' w' ∧ w'.ownsRow base 5 1 v' (n + m) (xs ++ news) ∧ w.grownBy w' v.ownBlock := by
  rcases h with h | ⟨g1, g, g2, g3, g4, g5⟩
  · obtain ⟨v', w', k1, k2, k3, -⟩ := run_append_own (P := Tryz.prog) w base 85 ty 5 i (.int .u8 0) 1 1 Tryz.underlying85 hi hz hs1 hb1 rfl (by decide) v n xs h a m c news (by omega) hnews h1 (by unfold maxLen; omega) (by omega) hbase
    exact ⟨v', w', k1, k2, k3⟩
  · subst g2
    exact append_lit base 85 ty 5 i (.int .u8 0) Tryz.underlying85 hi hz hs1 hb1 rfl g n xs g1 g5 a m c news hl hnews hm h63 hbase
theorem wpList_append_by {P : Program} {w : World} {ops : Array Oper} {rest : List Oper} {o : Oper} {a : Act} {Q : Exit → Act → World → Prop} {R : Value → World → Prop} (hgd : o.guard = none) (s x : Operand) (t : TypeId)
    (ho : o.op = .call { callee := .builtin .append, args := #[s, x], argTypes := #[t, t] }) (v y : Value) (hs : a.eval s = v) (hx : a.eval x = y)
    (hrun : ∃ v' w', (Builtin.append_ #[t, t] o.type #[v, y]).run P w = .ok v' w' ∧ R v' w') (h : ∀ v' w', R v' w' → wpList P ops Q rest (a.put o.dst v') w') : wpList P ops Q (o :: rest) a w := by
  obtain ⟨v', w', hr, hR⟩ := hrun
  refine wpList_plain hgd fun _ hK => ?_
  unfold Oper.wp execOp
  simp only [ho, resolve, invoke, builtin, Sem.run_bind, Sem.run_pure, Result.andThen_ok, List.map_toArray, List.map_cons, List.map_nil, hs, hx, hr]
  exact hK _ _ (h v' w' hR)
theorem nz_snoc {t : List UInt8} {k : Nat} {c : UInt8} (h : t[k]? = some c) : 32 :: (t.take (k + 1)).flatMap nz = (32 :: (t.take k).flatMap nz) ++ nz c := by
  rw [(take_snoc h).1, List.flatMap_append]; simp
set_option maxRecDepth 20000 in
theorem noisy_any (l : List UInt8) (hs : l.length ≤ 1000000) (w : World) :
    Calls Tryz.prog 27 #[.string ⟨l.toArray⟩] w fun e w' => e = .returned (.string ⟨(noisyS l).toArray⟩) ∧ Below w.heap.size w w' := by
  obtain ⟨i0, hi0, hz0, hz1, hz2⟩ := info_parts Tryz.infoB
  obtain ⟨s, hse⟩ : ∃ s : ByteArray, s = ⟨l.toArray⟩ := ⟨_, rfl⟩
  have hsz : s.size = l.length := by subst hse; rfl
  have hat : ∀ (k : Nat) (h1 : k < s.size), l[k]? = some s[k] := by subst hse; intro k h1; exact List.getElem?_eq_getElem h1
  have HSZ := Lib.hid hsz
  have HAT := Lib.hid hat
  have hs2 : s.size ≤ 1000000 := by omega
  rw [← hse]
  clear hse hsz hat
  have hcc := Lib.run_convert_bytes_const (P := Tryz.prog) w 85 5 #[.int .u8 32] 1 1 Tryz.underlying85 Tryz.underlying5
  have hO0 : LitOr (w.alloc (.cells #[.int .u8 32] 5 (1, 2))) w.heap.size (.slice (some ⟨w.heap.size, 0, none⟩) 1 1) 1 (([32] : List UInt8).map cel) := .inr ⟨rfl, w.heap.size, rfl, Nat.le_refl _, by simp, fun j u hu => by
    have e : (⟨w.heap.size, 0, none⟩ : Addr).add j = ⟨w.heap.size, j, none⟩ := by unfold Addr.add; split <;> simp_all
    rw [e, World.cell?_alloc_mark]
    rw [← Array.getElem?_toList]
    exact hu⟩
  go_enter Tryz.func27, Tryz.ntmps27
  go_wp2
  go_loopw [3, 4] (fun v i wr => ∃ (k n : Nat) (dn : List UInt8), k ≤ s.size ∧ n ≤ 10 * k + 1 ∧ i = .int .i64 (k : Int) ∧ Hid (dn = 32 :: (l.take k).flatMap nz) ∧ (∃ A c, v = .slice A n c) ∧ LitOr wr w.heap.size v n (dn.map cel) ∧ Below w.heap.size w wr) (fun _ i _ => s.size - (intOf i).toNat)
  case atStart => exact ⟨0, 1, [32], Nat.zero_le _, by omega, rfl, Lib.hid rfl, ⟨_, _, rfl⟩, hO0, one w _⟩
  case round =>
    obtain ⟨k, n, dn, hk, hn, rfl, HD, ⟨A, c, rfl⟩, hown, hbl⟩ := hrel
    clear hO0 hcc
    by_cases hlt : k < s.size
    · have i1 : (k : Int) < (s.size : Int) := by omega
      have hg := HAT.out k hlt
      have hnz := nz_snoc hg
      rw [← HD.out] at hnz
      obtain ⟨x, hx⟩ : ∃ x : Int, ((s[k]'hlt).toNat : Int) = x := ⟨_, rfl⟩
      have hsz := hbl.size
      by_cases q1 : x = 10
      · have HN : Hid (dn ++ [9, 35, 0, 120, 35, 255, 10, 9, 10, 32] = 32 :: (l.take (k + 1)).flatMap nz) := Lib.hid (by
          rw [hnz, show s[k]'hlt = 10 from UInt8.toNat_inj.1 (by show _ = 10; omega)]; rfl)
        subst q1
        clear hg hnz
        have hlow := hown.low
        go_wp2_with (at_builtin; refine wpList_append_by (R := fun v' w' => w'.ownsRow w.heap.size 5 1 v' (n + 10) (dn.map cel ++ [.int .u8 9, .int .u8 35, .int .u8 0, .int .u8 120, .int .u8 35, .int .u8 255, .int .u8 10, .int .u8 9, .int .u8 10, .int .u8 32]) ∧ (wr.alloc _).grownBy w' (Value.slice A n c).ownBlock) rfl _ _ 85 rfl _ _ rfl rfl ((hown.alloc _).app i0 hi0 hz0 hz1 hz2 ⟨wr.heap.size, 0, none⟩ 10 10 [.int .u8 9, .int .u8 35, .int .u8 0, .int .u8 120, .int .u8 35, .int .u8 255, .int .u8 10, .int .u8 9, .int .u8 10, .int .u8 32] rfl (cells_at rfl _ _) ?c2 (by decide) ?c4 ?c5 _) ?_)
        case c2 => intro u hu; simp at hu; rcases hu with rfl | rfl | rfl | rfl | rfl | rfl | rfl | rfl | rfl | rfl <;> rfl
        case c4 => omega
        case c5 => simp; omega
        intro v' w1 hown' hgrow
        have hbA := (hbl.alloc hbl.size _).grown hgrow (by simp; omega) (fun j hj => hlow j hj)
        clear hlow
        obtain ⟨A4, c4, rfl, -⟩ := own_sl hown'
        clear hown hgrow hbl
        go_wp2
        go_roundw
        case rel => exact ⟨k + 1, n + 10, _, by omega, by omega, by go_num, HN, ⟨_, _, rfl⟩, .inl (by rw [List.map_append]; exact hown'), hbA⟩
        case measure => simp [intOf]; omega
      · by_cases q2 : x = 32
        · have HN : Hid (dn ++ [32, 9] = 32 :: (l.take (k + 1)).flatMap nz) := Lib.hid (by
            rw [hnz, show s[k]'hlt = 32 from UInt8.toNat_inj.1 (by show _ = 32; omega)]; rfl)
          subst q2
          clear hg hnz
          have hlow := hown.low
          go_wp2_with (at_builtin; refine wpList_append_by (R := fun v' w' => w'.ownsRow w.heap.size 5 1 v' (n + 2) (dn.map cel ++ [.int .u8 32, .int .u8 9]) ∧ (wr.alloc _).grownBy w' (Value.slice A n c).ownBlock) rfl _ _ 85 rfl _ _ rfl rfl ((hown.alloc _).app i0 hi0 hz0 hz1 hz2 ⟨wr.heap.size, 0, none⟩ 2 2 [.int .u8 32, .int .u8 9] rfl (cells_at rfl _ _) ?c2 (by decide) ?c4 ?c5 _) ?_)
          case c2 => intro u hu; simp at hu; rcases hu with rfl | rfl <;> rfl
          case c4 => omega
          case c5 => simp; omega
          intro v' w1 hown' hgrow
          have hbA := (hbl.alloc hbl.size _).grown hgrow (by simp; omega) (fun j hj => hlow j hj)
          clear hlow
          obtain ⟨A4, c4, rfl, -⟩ := own_sl hown'
          clear hown hgrow hbl
          go_wp2
          go_roundw
          case rel => exact ⟨k + 1, n + 2, _, by omega, by omega, by go_num, HN, ⟨_, _, rfl⟩, .inl (by rw [List.map_append]; exact hown'), hbA⟩
          case measure => simp [intOf]; omega
        · have n2 : s[k]'hlt ≠ 10 := fun e => q1 (by rw [← hx, e]; rfl)
          have n3 : s[k]'hlt ≠ 32 := fun e => q2 (by rw [← hx, e]; rfl)
          have HN : Hid (dn ++ [s[k]'hlt] = 32 :: (l.take (k + 1)).flatMap nz) := Lib.hid (by rw [hnz]; unfold nz; rw [if_neg n2, if_neg n3])
          have HX : Hid (cel (s[k]'hlt) = .int .u8 x) := Lib.hid (by unfold cel; rw [hx])
          have f1 : (x == 10) = false := by rw [beq_eq_false_iff_ne]; exact q1
          have f2 : (x == 32) = false := by rw [beq_eq_false_iff_ne]; exact q2
          clear hg hnz n2 n3
          have hlow := hown.low
          go_wp2_with (at_builtin; refine wpList_append_by (R := fun v' w' => w'.ownsRow w.heap.size 5 1 v' (n + 1) (dn.map cel ++ [.int .u8 x]) ∧ (wr.alloc _).grownBy w' (Value.slice A n c).ownBlock) rfl _ _ 85 rfl _ _ rfl rfl ((hown.alloc _).app i0 hi0 hz0 hz1 hz2 ⟨wr.heap.size, 0, none⟩ 1 1 [.int .u8 x] rfl (cells_at rfl _ _) ?c2 (by decide) ?c4 ?c5 _) ?_)
          case c2 => intro u hu; simp at hu; subst hu; rfl
          case c4 => omega
          case c5 => simp; omega
          intro v' w1 hown' hgrow
          have hbA := (hbl.alloc hbl.size _).grown hgrow (by simp; omega) (fun j hj => hlow j hj)
          clear hlow
          obtain ⟨A4, c4, rfl, -⟩ := own_sl hown'
          clear hown hgrow hbl
          go_wp2
          go_roundw
          case rel => exact ⟨k + 1, n + 1, _, by omega, by omega, by go_num, HN, ⟨_, _, rfl⟩, .inl (by rw [List.map_append, List.map_singleton, HX.out]; exact hown'), hbA⟩
          case measure => simp [intOf]; omega
    · obtain rfl : k = s.size := by omega
      have i1 : ¬ (s.size : Int) < (s.size : Int) := by omega
      have hdv : dn = noisyS l := by
        rw [HD.out, List.take_of_length_le (by rw [HSZ.out]; exact Nat.le_refl _)]; rfl
      have hdl : dn.length = n := by have := hown.len; simpa using this
      have hpos : 0 < n := by rw [← hdl, HD.out]; simp
      obtain ⟨g, hA, hgc⟩ : ∃ g, A = some ⟨g, 0, none⟩ ∧ ∀ j u, (dn.map cel)[j]? = some u → wr.cell? ((⟨g, 0, none⟩ : Addr).add j) = some u := by
        obtain ⟨g, cap, e, h⟩ := hown.form hpos
        injection e with e1 e2 e3
        exact ⟨g, e1, h⟩
      subst hA
      have hcv := run_convert_bytes_back (P := Tryz.prog) wr 85 9 5 ⟨g, 0, none⟩ c dn Tryz.underlying85 Tryz.underlying5 Tryz.underlying9 (fun j hj => hgc j _ (by rw [List.getElem?_map, List.getElem?_eq_getElem hj]; rfl))
      rw [hdl] at hcv
      have HDV := Lib.hid hdv
      have HB := Lib.hid hbl
      clear hdv hown hdl hbl hpos hgc
      go_wp2
      go_ret
      exact ⟨by rw [HDV.out]; rfl, HB.out⟩
end Go.Proofs.YtpkmekdpmkfcdaaGreatDoor.Sr
