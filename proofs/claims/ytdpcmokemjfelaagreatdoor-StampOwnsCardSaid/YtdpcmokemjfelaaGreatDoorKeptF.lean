/- Contracts: the kept lists are written over; each shows its own marks. -/
import Derived.Test.YtdpcmokemjfelaaGreatDoorKeptE
import Derived.StillTailTactics
namespace Go.Proofs.YtdpcmokemjfelaaGreatDoor.Kp
open Go.RowKit Go.Proofs.YtdpcmokemjfelaaGreatDoor.Wd Go.Proofs.YtdpcmokemjfelaaGreatDoor.Px Go.Proofs.YtdpcmokemjfelaaGreatDoor.By Go.Proofs.YtdpcmokemjfelaaGreatDoor.Pf

/-- the lists so far: those ahead of i are marked, of i its first j -/
def Wn (p : Nat) (cs : List (List UInt8)) (i j : Nat) (ds : List (List UInt8)) : Prop :=
  ds.length = cs.length ∧ ∀ (q : Nat) (c : List UInt8), cs[q]? = some c → ∃ d, ds[q]? = some d ∧ d.length = c.length ∧ (q < i → d = marks p (q + 1) c.length) ∧ (q = i → d.take j = (marks p (q + 1) c.length).take j)
theorem Wn.start (p : Nat) (cs : List (List UInt8)) : Wn p cs 0 0 cs := ⟨rfl, fun q c hc => ⟨c, hc, rfl, fun h => by omega, fun _ => by simp⟩⟩
theorem Wn.next {p : Nat} {cs ds : List (List UInt8)} {i : Nat} {c : List UInt8} (h : Wn p cs i c.length ds) (hc : cs[i]? = some c) : Wn p cs (i + 1) 0 ds := by
  refine ⟨h.1, fun q e he => ?_⟩
  obtain ⟨d, h1, h2, h3, h4⟩ := h.2 q e he
  refine ⟨d, h1, h2, fun hq => ?_, fun _ => by simp⟩
  by_cases hqi : q < i
  · exact h3 hqi
  · obtain rfl : q = i := by omega
    rw [hc] at he
    injection he with he
    subst he
    have h5 := h4 rfl
    rwa [List.take_of_length_le (by omega), List.take_of_length_le (by rw [marks_len]; exact Nat.le_refl _)] at h5
theorem Wn.step {p : Nat} {cs ds : List (List UInt8)} {i j : Nat} {c d : List UInt8} (h : Wn p cs i j ds) (hc : cs[i]? = some c) (hd : ds[i]? = some d) (hj : j < c.length) : Wn p cs i (j + 1) (ds.set i (d.set j (bmk p (i + 1) j))) := by
  refine ⟨by simpa using h.1, fun q e he => ?_⟩
  obtain ⟨d2, h1, h2, h3, h4⟩ := h.2 q e he
  by_cases hqi : q = i
  · subst hqi
    rw [hd] at h1
    injection h1 with h1
    subst h1
    rw [hc] at he
    injection he with he
    subst he
    have hlt : q < ds.length := (List.getElem?_eq_some_iff.1 hd).1
    refine ⟨d.set j (bmk p (q + 1) j), by rw [List.getElem?_set_self hlt], by simpa using h2, fun hq => by omega, fun _ => ?_⟩
    have hjd : j < d.length := by omega
    rw [List.take_add_one, List.take_set_of_le (by omega), List.getElem?_set_self hjd, h4 rfl, List.take_add_one, List.getElem?_eq_getElem (by rw [marks_len]; exact hj), marks_at]
  · exact ⟨d2, by rw [List.getElem?_set_ne (fun e => hqi e.symm)]; exact h1, h2, h3, fun hq => absurd hq hqi⟩
theorem Wn.get {p : Nat} {cs ds : List (List UInt8)} {i j : Nat} {c : List UInt8} (h : Wn p cs i j ds) (hc : cs[i]? = some c) : ∃ d, ds[i]? = some d ∧ d.length = c.length := by
  obtain ⟨d, h1, h2, -⟩ := h.2 i c hc
  exact ⟨d, h1, h2⟩

/-- a book whose lists of bytes may be written -/
structure BkC (B K p : Nat) (vs : List Value) (cs : List (List UInt8)) (W : World) : Prop where
  co : ∃ v0 v1 us, Cor B K p v0 v1 (.slice none 0 0) vs us [] W
  rv : Rws B vs cs W
  ap : Apt vs
theorem BkC.on {B K p : Nat} {vs : List Value} {cs : List (List UInt8)} {W W' : World} (h : BkC B K p vs cs W) (hb : Below W.heap.size W W') : BkC B K p vs cs W' := by
  obtain ⟨⟨v0, v1, us, hc⟩, rv, ap⟩ := h
  exact ⟨⟨v0, v1, us, hc.on hb⟩, rv.on hb, ap⟩
/-- all that is old is left alone -/
def FrK (K : Nat) (W W' : World) : Prop := W.heap.size ≤ W'.heap.size ∧ ∀ (b : Nat) (w0 : World), b ≤ K → Below b w0 W → Below b w0 W'
theorem FrK.refl (K : Nat) (W : World) : FrK K W W := ⟨Nat.le_refl _, fun _ _ _ h => h⟩
theorem FrK.trans {K : Nat} {A C D : World} (h : FrK K A C) (k : FrK K C D) : FrK K A D := ⟨Nat.le_trans h.1 k.1, fun b w0 hb h0 => k.2 b w0 hb (h.2 b w0 hb h0)⟩
theorem FrK.drew {K : Nat} {A C : World} (h : FrK K A C) : FrK K A C.drew := ⟨h.1, fun b w0 hb h0 => (h.2 b w0 hb h0).drew⟩
theorem FrK.set {K g : Nat} {A C : World} (h : FrK K A C) (hg : K ≤ g) (o : Nat) (v : Value) : FrK K A (C.setCell ⟨g, o, none⟩ v) := ⟨by simpa using h.1, fun b w0 hb h0 => (h.2 b w0 hb h0).setCell (p := ⟨g, o, none⟩) (Nat.le_trans hb hg) v⟩
theorem FrK.of_below {K : Nat} {W W' : World} (hb : Below W.heap.size W W') (hK : K < W.heap.size) : FrK K W W' := ⟨hb.size, fun b w0 hbK h0 => h0.trans (hb.mono (by omega))⟩

/-- one byte of one list is written -/
theorem Rws.byte {B : Nat} {vs : List Value} {ds : List (List UInt8)} {W : World} (h : Rws B vs ds W) (ap : Apt vs) {i g n c : Nat} {d : List UInt8} (hv : vs[i]? = some (.slice (some ⟨g, 0, none⟩) n c)) (hd : ds[i]? = some d) (j : Nat) (x : UInt8) :
    Rws B vs (ds.set i (d.set j x)) (W.setCell ⟨g, j, none⟩ (cel x)) := by
  have hn : d.length = n := by
    have ho := h.own i _ d hv hd
    obtain ⟨A, c', e⟩ := own_slice ho
    injection e with _ e2 _
    exact e2.symm
  refine ⟨by simpa using h.len, fun q v e hq he => ?_⟩
  by_cases hqi : q = i
  · subst hqi
    rw [hv] at hq
    injection hq with hq
    subst hq
    rw [List.getElem?_set_self (List.getElem?_eq_some_iff.1 hd).1] at he
    injection he with he
    subst he
    have ho := h.own q _ d hv hd
    rw [hn] at ho
    have := ho.stored j (cel x)
    rw [List.length_set, hn, List.map_set]
    exact this.1
  · rw [List.getElem?_set_ne (fun e => hqi e.symm)] at he
    exact own_mv (h.own q v e hq he) fun k hk => Below.heap_setCell W ⟨g, j, none⟩ (cel x) k (fun e => hqi (ap q i v _ k hq hv hk (by rw [show g = k from e.symm]; rfl)))

theorem bytemark_as {K p id j : Nat} {x : UInt8} {y : Nat} (hx : Hid (bmk p id j = x)) (hy : Hid (x.toNat = y)) (w : World) (hc : w.cell? ⟨K, 1, none⟩ = some (.int .i64 (p : Int))) (hp : p ≤ 1) (hid : id ≤ 1000) (hj : j ≤ 1000) {i' : Int} (hi' : Hid ((id : Int) = i')) :
    Calls Tryz.prog 97 #[.pointer (some ⟨K, 0, none⟩), .int .i64 i', .int .i64 (j : Int)] w fun e w' => e = .returned (.int .u8 (y : Int)) ∧ w' = w := by
  have := bytemark_any K p id j w hc hp hid hj
  rw [hx.out] at this
  unfold cel at this
  rw [hy.out, hi'.out] at this
  exact this

set_option maxRecDepth 20000 in
set_option maxHeartbeats 4000000 in
theorem bwrite_any (B K p : Nat) (vs : List Value) (cs : List (List UInt8)) (w : World) (h : BkC B K p vs cs w) (hp : p ≤ 1) (hl : ∀ c ∈ cs, c.length ≤ 900) (hn : vs.length ≤ 900) :
    Calls Tryz.prog 30 #[.pointer (some ⟨K, 0, none⟩), .int .i64 0] w fun e w' => e = .returned (.int .i64 (vs.length : Int)) ∧ ∃ ds, BkC B K p vs ds w' ∧ Wn p cs vs.length 0 ds ∧ FrK K w w' := by
  obtain ⟨n, hnn⟩ : ∃ n, vs.length = n := ⟨_, rfl⟩
  have hlc : cs.length = n := by rw [← h.rv.len, hnn]
  rw [hnn] at hn ⊢
  have HN := Lib.hid hnn
  have HC := Lib.hid hlc
  clear hnn hlc
  go_enter Tryz.func30, Tryz.ntmps30
  go_wp2
  go_loopw [1, 5] (fun id i wr => ∃ (q : Nat) (ds : List (List UInt8)), q ≤ n ∧ id = .int .i64 (q : Int) ∧ i = .int .i64 (q : Int) ∧ Hid (BkC B K p vs ds wr) ∧ Hid (Wn p cs q 0 ds) ∧ Hid (FrK K w wr)) (fun _ i _ => n - (intOf i).toNat)
  case atStart => exact ⟨0, cs, Nat.zero_le _, rfl, rfl, Lib.hid h, Lib.hid (Wn.start p cs), Lib.hid (FrK.refl _ _)⟩
  case round =>
    obtain ⟨q, ds, hq, rfl, rfl, HB, HW, HF⟩ := hrel
    clear h
    obtain ⟨⟨v0, v1, us, hco⟩, rv, ap⟩ := HB.out
    have o0 := hco.o0
    rw [HN.out] at o0
    obtain ⟨A0, k0, rfl⟩ := own_slice o0
    have c2 := hco.bk.c2
    by_cases hlt : q < n
    · have i1 : (q : Int) < (n : Int) := by omega
      obtain ⟨c, hc0⟩ : ∃ c, cs[q]? = some c := ⟨_, List.getElem?_eq_getElem (by rw [HC.out]; exact hlt)⟩
      obtain ⟨m, hm⟩ : ∃ m, c.length = m := ⟨_, rfl⟩
      have hm9 : m ≤ 900 := by rw [← hm]; exact hl c (List.mem_of_getElem? hc0)
      have HM := Lib.hid hm
      have HC0 := Lib.hid hc0
      have HIQ : Hid (((q + 1 : Nat) : Int) = (q : Int) + 1) := Lib.hid (by simp)
      clear hm hc0 hco o0 rv ap
      go_wp2
      go_loopw [6] (fun j wi => ∃ (r : Nat) (es : List (List UInt8)), r ≤ m ∧ j = .int .i64 (r : Int) ∧ Hid (BkC B K p vs es wi) ∧ Hid (Wn p cs q r es) ∧ Hid (FrK K w wi)) (fun j _ => m - (intOf j).toNat)
      case atStart => exact ⟨0, ds, Nat.zero_le _, rfl, HB, HW, HF⟩
      case round =>
        obtain ⟨r, es, hr, rfl, HB, HW, HF⟩ := hrel
        clear c2
        obtain ⟨⟨v0, v1, us, hco⟩, rv, ap⟩ := HB.out
        have o0 := hco.o0
        rw [HN.out] at o0
        obtain ⟨g0, q0, x0, rfl, hx0, cx0, -⟩ := own_at o0 HN.out q hlt
        have c2 := hco.bk.c2
        have c1 := hco.bk.c1
        obtain ⟨d, hd0, hdl⟩ := HW.out.get HC0.out
        rw [HM.out] at hdl
        have ox := rv.own q x0 d hx0 hd0
        rw [hdl] at ox
        by_cases hrm : r < m
        · have i2 : (r : Int) < (m : Int) := by omega
          obtain ⟨g, kx, rfl, hgB, -⟩ := ox.form (by omega)
          obtain ⟨x, hx⟩ : ∃ x, bmk p (q + 1) r = x := ⟨_, rfl⟩
          obtain ⟨y, hy⟩ : ∃ y, x.toNat = y := ⟨_, rfl⟩
          have hcel : cel x = .int .u8 (y : Int) := by unfold cel; rw [hy]
          have hB2 := Lib.hid (show BkC B K p vs (es.set q (d.set r x)) (wr.drew.setCell ⟨g, r, none⟩ (.int .u8 (y : Int))) from by
            obtain ⟨cells, hcells⟩ := own_type ox (k := g) rfl
            have hr1 := (rv.on (Below.refl _ _).drew).byte ap hx0 hd0 r x
            rw [hcel] at hr1
            exact ⟨⟨_, _, _, (hco.on (Below.refl _ _).drew).byte hcells hgB r _⟩, hr1, ap⟩)
          have hW2 := Lib.hid (show Wn p cs q (r + 1) (es.set q (d.set r x)) from by rw [← hx]; exact HW.out.step HC0.out hd0 (by rw [HM.out]; exact hrm))
          have hF2 := Lib.hid (show FrK K w (wr.drew.setCell ⟨g, r, none⟩ (.int .u8 (y : Int))) from HF.out.drew.set (by have := hco.kb; omega) r _)
          obtain ⟨z, cz⟩ : ∃ z, wr.cell? ⟨g, r, none⟩ = some z := by
            have hz := ox.cellAt r (by omega)
            rw [List.getElem?_map, List.getElem?_eq_getElem (by omega), Option.map_some] at hz
            exact ⟨_, hz⟩
          have cf := ox.frozenAt
          have HX := Lib.hid hx
          have HY := Lib.hid hy
          clear hx hy hcel ox rv ap hd0 hx0 o0 hco hdl
          go_upto_region 8 with fail
          refine wp_region_still_tail 13 (by kernel_rfl) (by kernel_rfl) ?_
          simp only [List.take_succ_cons, List.take_zero, List.drop_succ_cons, List.drop_zero]
          change wpStill _ _ wr.drew (fun a' => wpList _ _ _ _ a' wr.drew) _ _
          replace c1 := keepc (Below.refl _ _).drew c1
          replace c2 := keepc (Below.refl _ _).drew c2
          replace cx0 := keepc (Below.refl _ _).drew cx0
          replace cz := keepc (Below.refl _ _).drew cz
          replace cf : ∀ j, wr.drew.frozen? ⟨g, j, none⟩ = false := cf
          generalize wr.drew = wz at c1 c2 cx0 cz cf hB2 hF2 ⊢
          repeat still_step
          still_call (bytemark_as HX HY wz c1 hp (by omega) (by omega) HIQ)
          repeat still_step
          refine wpStill_nil ?_
          go_wp2
          go_roundw
          case rel => exact ⟨r + 1, _, by omega, by go_num, hB2, hW2, hF2⟩
          case measure => simp [intOf]; omega
        · obtain rfl : r = m := by omega
          have i2 : ¬ (r : Int) < (r : Int) := by omega
          obtain ⟨Ax, kx, rfl⟩ := own_slice ox
          clear ox rv ap hd0 hx0 o0 hco hdl
          have hW2 := Lib.hid (show Wn p cs (q + 1) 0 es from Wn.next (c := c) (by rw [HM.out]; exact HW.out) HC0.out)
          go_wp2
          go_roundw
          case rel => exact ⟨q + 1, es, by omega, by go_num, by go_num, HB, hW2, HF⟩
          case measure => simp [intOf]; omega
    · obtain rfl : q = n := by omega
      have i1 : ¬ (q : Int) < (q : Int) := by omega
      clear hco o0 rv ap
      go_wp2
      go_ret
      exact ⟨rfl, ds, HB.out, HW.out, HF.out⟩

end Go.Proofs.YtdpcmokemjfelaaGreatDoor.Kp
