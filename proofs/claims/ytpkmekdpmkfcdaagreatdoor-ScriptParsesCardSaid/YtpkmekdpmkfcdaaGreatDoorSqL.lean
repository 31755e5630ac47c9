/- Contract of the reference: a word of a step. -/
import Derived.Test.YtpkmekdpmkfcdaaGreatDoorSqK
namespace Go.Proofs.YtpkmekdpmkfcdaaGreatDoor.Sr
set_option linter.unusedVariables false
set_option linter.unusedSimpArgs false
open Go.RowKit Go.Proofs.YtpkmekdpmkfcdaaGreatDoor.Wd Go.Proofs.YtpkmekdpmkfcdaaGreatDoor.Px Go.Proofs.YtpkmekdpmkfcdaaGreatDoor.By Go.Proofs.YtpkmekdpmkfcdaaGreatDoor.En Go.Proofs.YtpkmekdpmkfcdaaGreatDoor.Pl Go.Proofs.YtpkmekdpmkfcdaaGreatDoor.Sc
open Go.Proofs.YtpkmekdpmkfcdaaGreatDoor.Pf (Cut strc one)

/-- the result is stored and read at the end -/
theorem close_fill {W : World} {R : Nat} {a : Array Value} {t : TypeId} (h : Blk R a t W) (ha : a.size = 14) {tmps : Array Value} {Qp : Ending → World → Prop} {v0 v1 v2 v3 v4 v5 v6 v7 v8 v9 v10 v11 v12 v13 : Value}
    (x : Int) (h2 : (tmps[6]?).getD undef = .pointer (some ⟨R, 0, none⟩)) (h3 : (tmps[7]?).getD undef = .int .i64 x)
    (hQ : ∀ W8 : World, (∀ B a, B ≤ R → Below B a W → Below B a W8) → (∀ g, g ≠ R → W8.heap[g]? = W.heap[g]?) → Qp (.returned (.tuple #[.agg #[v0, v1, v2, v3, v4, v5, v6, v7, v8, v9, v10, v11, v12, v13], .int .i64 x])) W8) :
    bodyPost Tryz.prog Tryz.f143 Qp .ret { tmps := tmps, defers := [] } (put14 W R v0 v1 v2 v3 v4 v5 v6 v7 v8 v9 v10 v11 v12 v13) := by
  have h8 := put14_blk h ha v0 v1 v2 v3 v4 v5 v6 v7 v8 v9 v10 v11 v12 v13
  have hQ' := hQ _ (fun B a hB hb => put14_below hb hB v0 v1 v2 v3 v4 v5 v6 v7 v8 v9 v10 v11 v12 v13) (fun g hg => put14_other W hg v0 v1 v2 v3 v4 v5 v6 v7 v8 v9 v10 v11 v12 v13)
  clear hQ h
  generalize put14 W R v0 v1 v2 v3 v4 v5 v6 v7 v8 v9 v10 v11 v12 v13 = W8 at h8 hQ' ⊢
  have e0 : W8.cell? ⟨R, 0, none⟩ = some v0 := h8.cell rfl
  have e1 : W8.cell? ⟨R, 1, none⟩ = some v1 := h8.cell rfl
  have e2 : W8.cell? ⟨R, 2, none⟩ = some v2 := h8.cell rfl
  have e3 : W8.cell? ⟨R, 3, none⟩ = some v3 := h8.cell rfl
  have e4 : W8.cell? ⟨R, 4, none⟩ = some v4 := h8.cell rfl
  have e5 : W8.cell? ⟨R, 5, none⟩ = some v5 := h8.cell rfl
  have e6 : W8.cell? ⟨R, 6, none⟩ = some v6 := h8.cell rfl
  have e7 : W8.cell? ⟨R, 7, none⟩ = some v7 := h8.cell rfl
  have e8 : W8.cell? ⟨R, 8, none⟩ = some v8 := h8.cell rfl
  have e9 : W8.cell? ⟨R, 9, none⟩ = some v9 := h8.cell rfl
  have e10 : W8.cell? ⟨R, 10, none⟩ = some v10 := h8.cell rfl
  have e11 : W8.cell? ⟨R, 11, none⟩ = some v11 := h8.cell rfl
  have e12 : W8.cell? ⟨R, 12, none⟩ = some v12 := h8.cell rfl
  have e13 : W8.cell? ⟨R, 13, none⟩ = some v13 := h8.cell rfl
  clear h8
  exact bodyPost_ret (v := .tuple #[.agg #[v0, v1, v2, v3, v4, v5, v6, v7, v8, v9, v10, v11, v12, v13], .int .i64 x]) (by simp [results, Tryz.results143, go_sem, *]) rfl hQ'
def FillR (B : Nat) (cv fv : Value) (kvs : List Value) (r : Except Int Opp) (e : Ending) (w' : World) : Prop := ∃ o' dv bv, SlV dv ∧ SlV bv ∧ match r with
  | .ok o2 => o2 = o' ∧ e = .returned (.tuple #[.agg (opC o' dv cv fv bv), .int .i64 0]) ∧ OpO B o' dv cv fv bv kvs w'
  | .error x => e = .returned (.tuple #[.agg (opC o' dv cv fv bv), .int .i64 x])
theorem OpO.rest {B R : Nat} {o : Opp} {dv cv fv bv : Value} {kvs : List Value} {W W' : World} (h : OpO B o dv cv fv bv kvs W) {vs : Array Value} (hB : Blk R vs 108 W) (hm : ∀ g, g ≠ R → W'.heap[g]? = W.heap[g]?) : OpO B o dv cv fv bv kvs W' :=
  h.move fun g cs e he hc => hm g (fun e2 => by
    subst e2
    unfold Blk at hB
    rw [hB] at hc
    injection hc with hc
    injection hc with _ hc
    exact he hc.symm)
theorem numI_neg1 {y : List UInt8} {v : Int} (h : numI y = v) (hv : v < 0) : v = -1 := by
  unfold numI at h
  cases hn : numW y with
  | none => rw [hn] at h; exact h.symm
  | some n => rw [hn] at h; simp at h; omega
theorem fld_num {o : Opp} {c : UInt8} (hc : isNum c) (y : List UInt8) (r : List (List UInt8)) : fld o c (y :: r) = match numW y with
    | some n => .ok (setN o c n)
    | none => .error 223 := by
  unfold fld
  rcases hc with rfl | rfl | rfl | rfl | rfl | rfl | rfl <;> rfl
theorem rstamp_as {t : List UInt8} {o : Option (Int × Int)} (h : Hid (prs t = o)) (ht : t.length ≤ 140737488355328) (w : World) :
    Calls Tryz.prog 215 #[.string ⟨t.toArray⟩] w fun e w' => e = .returned (St.ofPrs o) ∧ Below w.heap.size w w' := by
  have := St.rparse_any ⟨t.toArray⟩ w ht
  rw [show (⟨t.toArray⟩ : ByteArray).data.toList = t from rfl, h.out] at this
  exact this

theorem boxes2 (w : World) (a : Array Value) : Below w.heap.size w ((w.alloc (.cells a 108)).alloc (.cells (opC opp0 nl nl nl nl) 108)) ∧ Blk w.heap.size a 108 ((w.alloc (.cells a 108)).alloc (.cells (opC opp0 nl nl nl nl) 108)) ∧ Blk (w.heap.size + 1) (opC opp0 nl nl nl nl) 108 ((w.alloc (.cells a 108)).alloc (.cells (opC opp0 nl nl nl nl) 108)) := by
  refine ⟨(one w _).alloc (by simp) _, Blk.on (blk_new w _ _) (one _ _), ?_⟩
  have := blk_new (w.alloc (.cells a 108)) (opC opp0 nl nl nl nl) 108
  rwa [World.size_alloc] at this
section
variable (B : Nat) (o : Opp) (Ad Ac Af Ab : Option Addr) (nd nc nf nb cd cc cf cb : Nat) (kvs : List Value) (y : List UInt8) (r : List (List UInt8)) (w : World)
set_option maxRecDepth 20000 in
set_option maxHeartbeats 1600000 in
theorem rfill_A (hO : OpO B o (.slice Ad nd cd) (.slice Ac nc cc) (.slice Af nf cf) (.slice Ab nb cb) kvs w) (hBw : B ≤ w.heap.size) (hy : y.length ≤ 2000000) :
    Calls Tryz.prog 143 #[.agg (opC o (.slice Ad nd cd) (.slice Ac nc cc) (.slice Af nf cf) (.slice Ab nb cb)), .int .u8 65, .string ⟨y.toArray⟩] w fun e w' => FillR B (.slice Ac nc cc) (.slice Af nf cf) kvs (fld o 65 (y :: r)) e w' ∧ Below w.heap.size w w' := by
  obtain ⟨v, hv⟩ : ∃ v, numI y = v := ⟨_, rfl⟩
  have HV := Lib.hid hv
  clear hv
  obtain ⟨hb0, hC0, hR0⟩ := boxes2 w (opC o (.slice Ad nd cd) (.slice Ac nc cc) (.slice Af nf cf) (.slice Ab nb cb))
  have hO0 := hO.on hb0
  clear hO
  simp only [opC] at hC0 hR0 ⊢
  go_enter Tryz.func143, Tryz.ntmps143
  go_upto_region 1 with fail
  simp only [opC, opp0, nl] at hb0 hC0 hR0 hO0
  generalize ((w.alloc (.cells #[.int .i64 o.kind, .int .i64 o.a, .int .i64 o.k, .int .i64 o.t, .int .i64 o.x, .int .i64 o.link, .slice Ad nd cd, .int .i64 o.sec, .int .i64 o.nano, .int .i64 o.blk, .int .i64 o.wid, .slice Ac nc cc, .slice Af nf cf, .slice Ab nb cb] 108)).alloc (.cells #[.int .i64 0, .int .i64 0, .int .i64 0, .int .i64 0, .int .i64 0, .int .i64 0, .slice none 0 0, .int .i64 0, .int .i64 0, .int .i64 0, .int .i64 0, .slice none 0 0, .slice none 0 0, .slice none 0 0] 108)) = W0 at hb0 hC0 hR0 hO0 ⊢
  obtain ⟨C, hC⟩ : ∃ C, w.heap.size = C := ⟨_, rfl⟩
  have hCw : w.heap.size ≤ C := Nat.le_of_eq hC
  have hRw : w.heap.size ≤ C + 1 := by omega
  rw [hC] at hC0 hR0 ⊢
  clear hC
  have hCR : C ≠ C + 1 := by omega
  have hC1 : Blk C (opC o (.slice Ad nd cd) (.slice Ac nc cc) (.slice Af nf cf) (.slice Ab nb cb)) 108 W0 := hC0
  have hR1 : Blk (C + 1) (opC opp0 nl nl nl nl) 108 W0 := hR0
  clear hC0 hR0
  have hCl := hC1.lt
  have hRl := hR1.lt
  have hN : isNum 65 := by unfold isNum; decide
  obtain ⟨e0, e1, e2, e3, e4, e5, e6, e7, e8, e9, e10, e11, e12, e13, fr⟩ := opC_cells hC1
  obtain ⟨r0, r1, r2, r3, r4, r5, r6, r7, r8, r9, r10, r11, r12, r13, fr0⟩ := opC_cells hR1
  simp only [opp0, nl] at r0 r1 r2 r3 r4 r5 r6 r7 r8 r9 r10 r11 r12 r13
  have hR2 := (Below.heap_setCell W0 ⟨C, 1, none⟩ (.int .i64 v) (C + 1) (by simp)).trans hR1
  have hR2 : Blk (C + 1) (opC opp0 nl nl nl nl) 108 (W0.setCell ⟨C, 1, none⟩ (.int .i64 v)) := hR2
  have hb2 := hb0.setCell (p := ⟨C, 1, none⟩) hCw (.int .i64 v)
  by_cases hneg : v < 0
  · obtain rfl := numI_neg1 HV.out hneg
    have HF : Hid (fld o 65 (y :: r) = .error 223) := Lib.hid (by rw [fld_num hN, numI_neg HV.out hneg])
    clear hN hneg
    go_wp2_with (go_at_call 138; refine (rnumber_as HV (by omega) _).mono ?_; rintro e w2 ⟨rfl, hw2⟩; rw [hw2]; clear hw2)
    refine close_fill hR2 rfl 223 rfl rfl fun W8 hb8 ho8 => ⟨⟨{ o with a := -1 }, .slice Ad nd cd, .slice Ab nb cb, sl_slice _ _ _, sl_slice _ _ _, ?_⟩, hb8 _ _ hRw hb2⟩
    rw [HF.out]; exact rfl
  · obtain ⟨n, hn, rfl⟩ := numI_pos HV.out hneg
    have HF : Hid (fld o 65 (y :: r) = .ok { o with a := (n : Int) }) := Lib.hid (by rw [fld_num hN, hn]; rfl)
    have hg : (0 : Int) ≤ (n : Int) := by omega
    have hO2 : OpO B { o with a := (n : Int) } (.slice Ad nd cd) (.slice Ac nc cc) (.slice Af nf cf) (.slice Ab nb cb) kvs (W0.setCell ⟨C, 1, none⟩ (.int .i64 (n : Int))) := by
      have h := hO0.set (j := 1) hC1 (.int .i64 (n : Int))
      exact ⟨h.data, h.chs, h.fls, h.keep, h.ap⟩
    have HO2 := Lib.hid hO2
    clear hN hn hneg hO2 hO0
    go_wp2_with (go_at_call 138; refine (rnumber_as HV (by omega) _).mono ?_; rintro e w2 ⟨rfl, hw2⟩; rw [hw2]; clear hw2)
    refine close_fill hR2 rfl 0 rfl rfl fun W8 hb8 ho8 => ⟨⟨{ o with a := (n : Int) }, .slice Ad nd cd, .slice Ab nb cb, sl_slice _ _ _, sl_slice _ _ _, ?_⟩, hb8 _ _ hRw hb2⟩
    rw [HF.out]; exact ⟨rfl, rfl, HO2.out.rest hR2 ho8⟩
set_option maxRecDepth 20000 in
set_option maxHeartbeats 1600000 in
theorem rfill_K (hO : OpO B o (.slice Ad nd cd) (.slice Ac nc cc) (.slice Af nf cf) (.slice Ab nb cb) kvs w) (hBw : B ≤ w.heap.size) (hy : y.length ≤ 2000000) :
    Calls Tryz.prog 143 #[.agg (opC o (.slice Ad nd cd) (.slice Ac nc cc) (.slice Af nf cf) (.slice Ab nb cb)), .int .u8 75, .string ⟨y.toArray⟩] w fun e w' => FillR B (.slice Ac nc cc) (.slice Af nf cf) kvs (fld o 75 (y :: r)) e w' ∧ Below w.heap.size w w' := by
  obtain ⟨v, hv⟩ : ∃ v, numI y = v := ⟨_, rfl⟩
  have HV := Lib.hid hv
  clear hv
  obtain ⟨hb0, hC0, hR0⟩ := boxes2 w (opC o (.slice Ad nd cd) (.slice Ac nc cc) (.slice Af nf cf) (.slice Ab nb cb))
  have hO0 := hO.on hb0
  clear hO
  simp only [opC] at hC0 hR0 ⊢
  go_enter Tryz.func143, Tryz.ntmps143
  go_upto_region 1 with fail
  simp only [opC, opp0, nl] at hb0 hC0 hR0 hO0
  generalize ((w.alloc (.cells #[.int .i64 o.kind, .int .i64 o.a, .int .i64 o.k, .int .i64 o.t, .int .i64 o.x, .int .i64 o.link, .slice Ad nd cd, .int .i64 o.sec, .int .i64 o.nano, .int .i64 o.blk, .int .i64 o.wid, .slice Ac nc cc, .slice Af nf cf, .slice Ab nb cb] 108)).alloc (.cells #[.int .i64 0, .int .i64 0, .int .i64 0, .int .i64 0, .int .i64 0, .int .i64 0, .slice none 0 0, .int .i64 0, .int .i64 0, .int .i64 0, .int .i64 0, .slice none 0 0, .slice none 0 0, .slice none 0 0] 108)) = W0 at hb0 hC0 hR0 hO0 ⊢
  obtain ⟨C, hC⟩ : ∃ C, w.heap.size = C := ⟨_, rfl⟩
  have hCw : w.heap.size ≤ C := Nat.le_of_eq hC
  have hRw : w.heap.size ≤ C + 1 := by omega
  rw [hC] at hC0 hR0 ⊢
  clear hC
  have hCR : C ≠ C + 1 := by omega
  have hC1 : Blk C (opC o (.slice Ad nd cd) (.slice Ac nc cc) (.slice Af nf cf) (.slice Ab nb cb)) 108 W0 := hC0
  have hR1 : Blk (C + 1) (opC opp0 nl nl nl nl) 108 W0 := hR0
  clear hC0 hR0
  have hCl := hC1.lt
  have hRl := hR1.lt
  have hN : isNum 75 := by unfold isNum; decide
  obtain ⟨e0, e1, e2, e3, e4, e5, e6, e7, e8, e9, e10, e11, e12, e13, fr⟩ := opC_cells hC1
  obtain ⟨r0, r1, r2, r3, r4, r5, r6, r7, r8, r9, r10, r11, r12, r13, fr0⟩ := opC_cells hR1
  simp only [opp0, nl] at r0 r1 r2 r3 r4 r5 r6 r7 r8 r9 r10 r11 r12 r13
  have hR2 := (Below.heap_setCell W0 ⟨C, 2, none⟩ (.int .i64 v) (C + 1) (by simp)).trans hR1
  have hR2 : Blk (C + 1) (opC opp0 nl nl nl nl) 108 (W0.setCell ⟨C, 2, none⟩ (.int .i64 v)) := hR2
  have hb2 := hb0.setCell (p := ⟨C, 2, none⟩) hCw (.int .i64 v)
  by_cases hneg : v < 0
  · obtain rfl := numI_neg1 HV.out hneg
    have HF : Hid (fld o 75 (y :: r) = .error 223) := Lib.hid (by rw [fld_num hN, numI_neg HV.out hneg])
    clear hN hneg
    go_wp2_with (go_at_call 138; refine (rnumber_as HV (by omega) _).mono ?_; rintro e w2 ⟨rfl, hw2⟩; rw [hw2]; clear hw2)
    refine close_fill hR2 rfl 223 rfl rfl fun W8 hb8 ho8 => ⟨⟨{ o with k := -1 }, .slice Ad nd cd, .slice Ab nb cb, sl_slice _ _ _, sl_slice _ _ _, ?_⟩, hb8 _ _ hRw hb2⟩
    rw [HF.out]; exact rfl
  · obtain ⟨n, hn, rfl⟩ := numI_pos HV.out hneg
    have HF : Hid (fld o 75 (y :: r) = .ok { o with k := (n : Int) }) := Lib.hid (by rw [fld_num hN, hn]; rfl)
    have hg : (0 : Int) ≤ (n : Int) := by omega
    have hO2 : OpO B { o with k := (n : Int) } (.slice Ad nd cd) (.slice Ac nc cc) (.slice Af nf cf) (.slice Ab nb cb) kvs (W0.setCell ⟨C, 2, none⟩ (.int .i64 (n : Int))) := by
      have h := hO0.set (j := 2) hC1 (.int .i64 (n : Int))
      exact ⟨h.data, h.chs, h.fls, h.keep, h.ap⟩
    have HO2 := Lib.hid hO2
    clear hN hn hneg hO2 hO0
    go_wp2_with (go_at_call 138; refine (rnumber_as HV (by omega) _).mono ?_; rintro e w2 ⟨rfl, hw2⟩; rw [hw2]; clear hw2)
    refine close_fill hR2 rfl 0 rfl rfl fun W8 hb8 ho8 => ⟨⟨{ o with k := (n : Int) }, .slice Ad nd cd, .slice Ab nb cb, sl_slice _ _ _, sl_slice _ _ _, ?_⟩, hb8 _ _ hRw hb2⟩
    rw [HF.out]; exact ⟨rfl, rfl, HO2.out.rest hR2 ho8⟩
set_option maxRecDepth 20000 in
set_option maxHeartbeats 1600000 in
theorem rfill_L (hO : OpO B o (.slice Ad nd cd) (.slice Ac nc cc) (.slice Af nf cf) (.slice Ab nb cb) kvs w) (hBw : B ≤ w.heap.size) (hy : y.length ≤ 2000000) :
    Calls Tryz.prog 143 #[.agg (opC o (.slice Ad nd cd) (.slice Ac nc cc) (.slice Af nf cf) (.slice Ab nb cb)), .int .u8 76, .string ⟨y.toArray⟩] w fun e w' => FillR B (.slice Ac nc cc) (.slice Af nf cf) kvs (fld o 76 (y :: r)) e w' ∧ Below w.heap.size w w' := by
  obtain ⟨v, hv⟩ : ∃ v, numI y = v := ⟨_, rfl⟩
  have HV := Lib.hid hv
  clear hv
  obtain ⟨hb0, hC0, hR0⟩ := boxes2 w (opC o (.slice Ad nd cd) (.slice Ac nc cc) (.slice Af nf cf) (.slice Ab nb cb))
  have hO0 := hO.on hb0
  clear hO
  simp only [opC] at hC0 hR0 ⊢
  go_enter Tryz.func143, Tryz.ntmps143
  go_upto_region 1 with fail
  simp only [opC, opp0, nl] at hb0 hC0 hR0 hO0
  generalize ((w.alloc (.cells #[.int .i64 o.kind, .int .i64 o.a, .int .i64 o.k, .int .i64 o.t, .int .i64 o.x, .int .i64 o.link, .slice Ad nd cd, .int .i64 o.sec, .int .i64 o.nano, .int .i64 o.blk, .int .i64 o.wid, .slice Ac nc cc, .slice Af nf cf, .slice Ab nb cb] 108)).alloc (.cells #[.int .i64 0, .int .i64 0, .int .i64 0, .int .i64 0, .int .i64 0, .int .i64 0, .slice none 0 0, .int .i64 0, .int .i64 0, .int .i64 0, .int .i64 0, .slice none 0 0, .slice none 0 0, .slice none 0 0] 108)) = W0 at hb0 hC0 hR0 hO0 ⊢
  obtain ⟨C, hC⟩ : ∃ C, w.heap.size = C := ⟨_, rfl⟩
  have hCw : w.heap.size ≤ C := Nat.le_of_eq hC
  have hRw : w.heap.size ≤ C + 1 := by omega
  rw [hC] at hC0 hR0 ⊢
  clear hC
  have hCR : C ≠ C + 1 := by omega
  have hC1 : Blk C (opC o (.slice Ad nd cd) (.slice Ac nc cc) (.slice Af nf cf) (.slice Ab nb cb)) 108 W0 := hC0
  have hR1 : Blk (C + 1) (opC opp0 nl nl nl nl) 108 W0 := hR0
  clear hC0 hR0
  have hCl := hC1.lt
  have hRl := hR1.lt
  have hN : isNum 76 := by unfold isNum; decide
  obtain ⟨e0, e1, e2, e3, e4, e5, e6, e7, e8, e9, e10, e11, e12, e13, fr⟩ := opC_cells hC1
  obtain ⟨r0, r1, r2, r3, r4, r5, r6, r7, r8, r9, r10, r11, r12, r13, fr0⟩ := opC_cells hR1
  simp only [opp0, nl] at r0 r1 r2 r3 r4 r5 r6 r7 r8 r9 r10 r11 r12 r13
  have hR2 := (Below.heap_setCell W0 ⟨C, 5, none⟩ (.int .i64 v) (C + 1) (by simp)).trans hR1
  have hR2 : Blk (C + 1) (opC opp0 nl nl nl nl) 108 (W0.setCell ⟨C, 5, none⟩ (.int .i64 v)) := hR2
  have hb2 := hb0.setCell (p := ⟨C, 5, none⟩) hCw (.int .i64 v)
  by_cases hneg : v < 0
  · obtain rfl := numI_neg1 HV.out hneg
    have HF : Hid (fld o 76 (y :: r) = .error 223) := Lib.hid (by rw [fld_num hN, numI_neg HV.out hneg])
    clear hN hneg
    go_wp2_with (go_at_call 138; refine (rnumber_as HV (by omega) _).mono ?_; rintro e w2 ⟨rfl, hw2⟩; rw [hw2]; clear hw2)
    refine close_fill hR2 rfl 223 rfl rfl fun W8 hb8 ho8 => ⟨⟨{ o with link := -1 }, .slice Ad nd cd, .slice Ab nb cb, sl_slice _ _ _, sl_slice _ _ _, ?_⟩, hb8 _ _ hRw hb2⟩
    rw [HF.out]; exact rfl
  · obtain ⟨n, hn, rfl⟩ := numI_pos HV.out hneg
    have HF : Hid (fld o 76 (y :: r) = .ok { o with link := (n : Int) }) := Lib.hid (by rw [fld_num hN, hn]; rfl)
    have hg : (0 : Int) ≤ (n : Int) := by omega
    have hO2 : OpO B { o with link := (n : Int) } (.slice Ad nd cd) (.slice Ac nc cc) (.slice Af nf cf) (.slice Ab nb cb) kvs (W0.setCell ⟨C, 5, none⟩ (.int .i64 (n : Int))) := by
      have h := hO0.set (j := 5) hC1 (.int .i64 (n : Int))
      exact ⟨h.data, h.chs, h.fls, h.keep, h.ap⟩
    have HO2 := Lib.hid hO2
    clear hN hn hneg hO2 hO0
    go_wp2_with (go_at_call 138; refine (rnumber_as HV (by omega) _).mono ?_; rintro e w2 ⟨rfl, hw2⟩; rw [hw2]; clear hw2)
    refine close_fill hR2 rfl 0 rfl rfl fun W8 hb8 ho8 => ⟨⟨{ o with link := (n : Int) }, .slice Ad nd cd, .slice Ab nb cb, sl_slice _ _ _, sl_slice _ _ _, ?_⟩, hb8 _ _ hRw hb2⟩
    rw [HF.out]; exact ⟨rfl, rfl, HO2.out.rest hR2 ho8⟩
set_option maxRecDepth 20000 in
set_option maxHeartbeats 1600000 in
theorem rfill_T (hO : OpO B o (.slice Ad nd cd) (.slice Ac nc cc) (.slice Af nf cf) (.slice Ab nb cb) kvs w) (hBw : B ≤ w.heap.size) (hy : y.length ≤ 2000000) :
    Calls Tryz.prog 143 #[.agg (opC o (.slice Ad nd cd) (.slice Ac nc cc) (.slice Af nf cf) (.slice Ab nb cb)), .int .u8 84, .string ⟨y.toArray⟩] w fun e w' => FillR B (.slice Ac nc cc) (.slice Af nf cf) kvs (fld o 84 (y :: r)) e w' ∧ Below w.heap.size w w' := by
  obtain ⟨v, hv⟩ : ∃ v, numI y = v := ⟨_, rfl⟩
  have HV := Lib.hid hv
  clear hv
  obtain ⟨hb0, hC0, hR0⟩ := boxes2 w (opC o (.slice Ad nd cd) (.slice Ac nc cc) (.slice Af nf cf) (.slice Ab nb cb))
  have hO0 := hO.on hb0
  clear hO
  simp only [opC] at hC0 hR0 ⊢
  go_enter Tryz.func143, Tryz.ntmps143
  go_upto_region 1 with fail
  simp only [opC, opp0, nl] at hb0 hC0 hR0 hO0
  generalize ((w.alloc (.cells #[.int .i64 o.kind, .int .i64 o.a, .int .i64 o.k, .int .i64 o.t, .int .i64 o.x, .int .i64 o.link, .slice Ad nd cd, .int .i64 o.sec, .int .i64 o.nano, .int .i64 o.blk, .int .i64 o.wid, .slice Ac nc cc, .slice Af nf cf, .slice Ab nb cb] 108)).alloc (.cells #[.int .i64 0, .int .i64 0, .int .i64 0, .int .i64 0, .int .i64 0, .int .i64 0, .slice none 0 0, .int .i64 0, .int .i64 0, .int .i64 0, .int .i64 0, .slice none 0 0, .slice none 0 0, .slice none 0 0] 108)) = W0 at hb0 hC0 hR0 hO0 ⊢
  obtain ⟨C, hC⟩ : ∃ C, w.heap.size = C := ⟨_, rfl⟩
  have hCw : w.heap.size ≤ C := Nat.le_of_eq hC
  have hRw : w.heap.size ≤ C + 1 := by omega
  rw [hC] at hC0 hR0 ⊢
  clear hC
  have hCR : C ≠ C + 1 := by omega
  have hC1 : Blk C (opC o (.slice Ad nd cd) (.slice Ac nc cc) (.slice Af nf cf) (.slice Ab nb cb)) 108 W0 := hC0
  have hR1 : Blk (C + 1) (opC opp0 nl nl nl nl) 108 W0 := hR0
  clear hC0 hR0
  have hCl := hC1.lt
  have hRl := hR1.lt
  have hN : isNum 84 := by unfold isNum; decide
  obtain ⟨e0, e1, e2, e3, e4, e5, e6, e7, e8, e9, e10, e11, e12, e13, fr⟩ := opC_cells hC1
  obtain ⟨r0, r1, r2, r3, r4, r5, r6, r7, r8, r9, r10, r11, r12, r13, fr0⟩ := opC_cells hR1
  simp only [opp0, nl] at r0 r1 r2 r3 r4 r5 r6 r7 r8 r9 r10 r11 r12 r13
  have hR2 := (Below.heap_setCell W0 ⟨C, 3, none⟩ (.int .i64 v) (C + 1) (by simp)).trans hR1
  have hR2 : Blk (C + 1) (opC opp0 nl nl nl nl) 108 (W0.setCell ⟨C, 3, none⟩ (.int .i64 v)) := hR2
  have hb2 := hb0.setCell (p := ⟨C, 3, none⟩) hCw (.int .i64 v)
  by_cases hneg : v < 0
  · obtain rfl := numI_neg1 HV.out hneg
    have HF : Hid (fld o 84 (y :: r) = .error 223) := Lib.hid (by rw [fld_num hN, numI_neg HV.out hneg])
    clear hN hneg
    go_wp2_with (go_at_call 138; refine (rnumber_as HV (by omega) _).mono ?_; rintro e w2 ⟨rfl, hw2⟩; rw [hw2]; clear hw2)
    refine close_fill hR2 rfl 223 rfl rfl fun W8 hb8 ho8 => ⟨⟨{ o with t := -1 }, .slice Ad nd cd, .slice Ab nb cb, sl_slice _ _ _, sl_slice _ _ _, ?_⟩, hb8 _ _ hRw hb2⟩
    rw [HF.out]; exact rfl
  · obtain ⟨n, hn, rfl⟩ := numI_pos HV.out hneg
    have HF : Hid (fld o 84 (y :: r) = .ok { o with t := (n : Int) }) := Lib.hid (by rw [fld_num hN, hn]; rfl)
    have hg : (0 : Int) ≤ (n : Int) := by omega
    have hO2 : OpO B { o with t := (n : Int) } (.slice Ad nd cd) (.slice Ac nc cc) (.slice Af nf cf) (.slice Ab nb cb) kvs (W0.setCell ⟨C, 3, none⟩ (.int .i64 (n : Int))) := by
      have h := hO0.set (j := 3) hC1 (.int .i64 (n : Int))
      exact ⟨h.data, h.chs, h.fls, h.keep, h.ap⟩
    have HO2 := Lib.hid hO2
    clear hN hn hneg hO2 hO0
    go_wp2_with (go_at_call 138; refine (rnumber_as HV (by omega) _).mono ?_; rintro e w2 ⟨rfl, hw2⟩; rw [hw2]; clear hw2)
    refine close_fill hR2 rfl 0 rfl rfl fun W8 hb8 ho8 => ⟨⟨{ o with t := (n : Int) }, .slice Ad nd cd, .slice Ab nb cb, sl_slice _ _ _, sl_slice _ _ _, ?_⟩, hb8 _ _ hRw hb2⟩
    rw [HF.out]; exact ⟨rfl, rfl, HO2.out.rest hR2 ho8⟩
set_option maxRecDepth 20000 in
set_option maxHeartbeats 1600000 in
theorem rfill_X (hO : OpO B o (.slice Ad nd cd) (.slice Ac nc cc) (.slice Af nf cf) (.slice Ab nb cb) kvs w) (hBw : B ≤ w.heap.size) (hy : y.length ≤ 2000000) :
    Calls Tryz.prog 143 #[.agg (opC o (.slice Ad nd cd) (.slice Ac nc cc) (.slice Af nf cf) (.slice Ab nb cb)), .int .u8 88, .string ⟨y.toArray⟩] w fun e w' => FillR B (.slice Ac nc cc) (.slice Af nf cf) kvs (fld o 88 (y :: r)) e w' ∧ Below w.heap.size w w' := by
  obtain ⟨v, hv⟩ : ∃ v, numI y = v := ⟨_, rfl⟩
  have HV := Lib.hid hv
  clear hv
  obtain ⟨hb0, hC0, hR0⟩ := boxes2 w (opC o (.slice Ad nd cd) (.slice Ac nc cc) (.slice Af nf cf) (.slice Ab nb cb))
  have hO0 := hO.on hb0
  clear hO
  simp only [opC] at hC0 hR0 ⊢
  go_enter Tryz.func143, Tryz.ntmps143
  go_upto_region 1 with fail
  simp only [opC, opp0, nl] at hb0 hC0 hR0 hO0
  generalize ((w.alloc (.cells #[.int .i64 o.kind, .int .i64 o.a, .int .i64 o.k, .int .i64 o.t, .int .i64 o.x, .int .i64 o.link, .slice Ad nd cd, .int .i64 o.sec, .int .i64 o.nano, .int .i64 o.blk, .int .i64 o.wid, .slice Ac nc cc, .slice Af nf cf, .slice Ab nb cb] 108)).alloc (.cells #[.int .i64 0, .int .i64 0, .int .i64 0, .int .i64 0, .int .i64 0, .int .i64 0, .slice none 0 0, .int .i64 0, .int .i64 0, .int .i64 0, .int .i64 0, .slice none 0 0, .slice none 0 0, .slice none 0 0] 108)) = W0 at hb0 hC0 hR0 hO0 ⊢
  obtain ⟨C, hC⟩ : ∃ C, w.heap.size = C := ⟨_, rfl⟩
  have hCw : w.heap.size ≤ C := Nat.le_of_eq hC
  have hRw : w.heap.size ≤ C + 1 := by omega
  rw [hC] at hC0 hR0 ⊢
  clear hC
  have hCR : C ≠ C + 1 := by omega
  have hC1 : Blk C (opC o (.slice Ad nd cd) (.slice Ac nc cc) (.slice Af nf cf) (.slice Ab nb cb)) 108 W0 := hC0
  have hR1 : Blk (C + 1) (opC opp0 nl nl nl nl) 108 W0 := hR0
  clear hC0 hR0
  have hCl := hC1.lt
  have hRl := hR1.lt
  have hN : isNum 88 := by unfold isNum; decide
  obtain ⟨e0, e1, e2, e3, e4, e5, e6, e7, e8, e9, e10, e11, e12, e13, fr⟩ := opC_cells hC1
  obtain ⟨r0, r1, r2, r3, r4, r5, r6, r7, r8, r9, r10, r11, r12, r13, fr0⟩ := opC_cells hR1
  simp only [opp0, nl] at r0 r1 r2 r3 r4 r5 r6 r7 r8 r9 r10 r11 r12 r13
  have hR2 := (Below.heap_setCell W0 ⟨C, 4, none⟩ (.int .i64 v) (C + 1) (by simp)).trans hR1
  have hR2 : Blk (C + 1) (opC opp0 nl nl nl nl) 108 (W0.setCell ⟨C, 4, none⟩ (.int .i64 v)) := hR2
  have hb2 := hb0.setCell (p := ⟨C, 4, none⟩) hCw (.int .i64 v)
  by_cases hneg : v < 0
  · obtain rfl := numI_neg1 HV.out hneg
    have HF : Hid (fld o 88 (y :: r) = .error 223) := Lib.hid (by rw [fld_num hN, numI_neg HV.out hneg])
    clear hN hneg
    go_wp2_with (go_at_call 138; refine (rnumber_as HV (by omega) _).mono ?_; rintro e w2 ⟨rfl, hw2⟩; rw [hw2]; clear hw2)
    refine close_fill hR2 rfl 223 rfl rfl fun W8 hb8 ho8 => ⟨⟨{ o with x := -1 }, .slice Ad nd cd, .slice Ab nb cb, sl_slice _ _ _, sl_slice _ _ _, ?_⟩, hb8 _ _ hRw hb2⟩
    rw [HF.out]; exact rfl
  · obtain ⟨n, hn, rfl⟩ := numI_pos HV.out hneg
    have HF : Hid (fld o 88 (y :: r) = .ok { o with x := (n : Int) }) := Lib.hid (by rw [fld_num hN, hn]; rfl)
    have hg : (0 : Int) ≤ (n : Int) := by omega
    have hO2 : OpO B { o with x := (n : Int) } (.slice Ad nd cd) (.slice Ac nc cc) (.slice Af nf cf) (.slice Ab nb cb) kvs (W0.setCell ⟨C, 4, none⟩ (.int .i64 (n : Int))) := by
      have h := hO0.set (j := 4) hC1 (.int .i64 (n : Int))
      exact ⟨h.data, h.chs, h.fls, h.keep, h.ap⟩
    have HO2 := Lib.hid hO2
    clear hN hn hneg hO2 hO0
    go_wp2_with (go_at_call 138; refine (rnumber_as HV (by omega) _).mono ?_; rintro e w2 ⟨rfl, hw2⟩; rw [hw2]; clear hw2)
    refine close_fill hR2 rfl 0 rfl rfl fun W8 hb8 ho8 => ⟨⟨{ o with x := (n : Int) }, .slice Ad nd cd, .slice Ab nb cb, sl_slice _ _ _, sl_slice _ _ _, ?_⟩, hb8 _ _ hRw hb2⟩
    rw [HF.out]; exact ⟨rfl, rfl, HO2.out.rest hR2 ho8⟩
set_option maxRecDepth 20000 in
set_option maxHeartbeats 1600000 in
theorem rfill_b (hO : OpO B o (.slice Ad nd cd) (.slice Ac nc cc) (.slice Af nf cf) (.slice Ab nb cb) kvs w) (hBw : B ≤ w.heap.size) (hy : y.length ≤ 2000000) :
    Calls Tryz.prog 143 #[.agg (opC o (.slice Ad nd cd) (.slice Ac nc cc) (.slice Af nf cf) (.slice Ab nb cb)), .int .u8 98, .string ⟨y.toArray⟩] w fun e w' => FillR B (.slice Ac nc cc) (.slice Af nf cf) kvs (fld o 98 (y :: r)) e w' ∧ Below w.heap.size w w' := by
  obtain ⟨v, hv⟩ : ∃ v, numI y = v := ⟨_, rfl⟩
  have HV := Lib.hid hv
  clear hv
  obtain ⟨hb0, hC0, hR0⟩ := boxes2 w (opC o (.slice Ad nd cd) (.slice Ac nc cc) (.slice Af nf cf) (.slice Ab nb cb))
  have hO0 := hO.on hb0
  clear hO
  simp only [opC] at hC0 hR0 ⊢
  go_enter Tryz.func143, Tryz.ntmps143
  go_upto_region 1 with fail
  simp only [opC, opp0, nl] at hb0 hC0 hR0 hO0
  generalize ((w.alloc (.cells #[.int .i64 o.kind, .int .i64 o.a, .int .i64 o.k, .int .i64 o.t, .int .i64 o.x, .int .i64 o.link, .slice Ad nd cd, .int .i64 o.sec, .int .i64 o.nano, .int .i64 o.blk, .int .i64 o.wid, .slice Ac nc cc, .slice Af nf cf, .slice Ab nb cb] 108)).alloc (.cells #[.int .i64 0, .int .i64 0, .int .i64 0, .int .i64 0, .int .i64 0, .int .i64 0, .slice none 0 0, .int .i64 0, .int .i64 0, .int .i64 0, .int .i64 0, .slice none 0 0, .slice none 0 0, .slice none 0 0] 108)) = W0 at hb0 hC0 hR0 hO0 ⊢
  obtain ⟨C, hC⟩ : ∃ C, w.heap.size = C := ⟨_, rfl⟩
  have hCw : w.heap.size ≤ C := Nat.le_of_eq hC
  have hRw : w.heap.size ≤ C + 1 := by omega
  rw [hC] at hC0 hR0 ⊢
  clear hC
  have hCR : C ≠ C + 1 := by omega
  have hC1 : Blk C (opC o (.slice Ad nd cd) (.slice Ac nc cc) (.slice Af nf cf) (.slice Ab nb cb)) 108 W0 := hC0
  have hR1 : Blk (C + 1) (opC opp0 nl nl nl nl) 108 W0 := hR0
  clear hC0 hR0
  have hCl := hC1.lt
  have hRl := hR1.lt
  have hN : isNum 98 := by unfold isNum; decide
  obtain ⟨e0, e1, e2, e3, e4, e5, e6, e7, e8, e9, e10, e11, e12, e13, fr⟩ := opC_cells hC1
  obtain ⟨r0, r1, r2, r3, r4, r5, r6, r7, r8, r9, r10, r11, r12, r13, fr0⟩ := opC_cells hR1
  simp only [opp0, nl] at r0 r1 r2 r3 r4 r5 r6 r7 r8 r9 r10 r11 r12 r13
  have hR2 := (Below.heap_setCell W0 ⟨C, 9, none⟩ (.int .i64 v) (C + 1) (by simp)).trans hR1
  have hR2 : Blk (C + 1) (opC opp0 nl nl nl nl) 108 (W0.setCell ⟨C, 9, none⟩ (.int .i64 v)) := hR2
  have hb2 := hb0.setCell (p := ⟨C, 9, none⟩) hCw (.int .i64 v)
  by_cases hneg : v < 0
  · obtain rfl := numI_neg1 HV.out hneg
    have HF : Hid (fld o 98 (y :: r) = .error 223) := Lib.hid (by rw [fld_num hN, numI_neg HV.out hneg])
    clear hN hneg
    go_wp2_with (go_at_call 138; refine (rnumber_as HV (by omega) _).mono ?_; rintro e w2 ⟨rfl, hw2⟩; rw [hw2]; clear hw2)
    refine close_fill hR2 rfl 223 rfl rfl fun W8 hb8 ho8 => ⟨⟨{ o with blk := -1 }, .slice Ad nd cd, .slice Ab nb cb, sl_slice _ _ _, sl_slice _ _ _, ?_⟩, hb8 _ _ hRw hb2⟩
    rw [HF.out]; exact rfl
  · obtain ⟨n, hn, rfl⟩ := numI_pos HV.out hneg
    have HF : Hid (fld o 98 (y :: r) = .ok { o with blk := (n : Int) }) := Lib.hid (by rw [fld_num hN, hn]; rfl)
    have hg : (0 : Int) ≤ (n : Int) := by omega
    have hO2 : OpO B { o with blk := (n : Int) } (.slice Ad nd cd) (.slice Ac nc cc) (.slice Af nf cf) (.slice Ab nb cb) kvs (W0.setCell ⟨C, 9, none⟩ (.int .i64 (n : Int))) := by
      have h := hO0.set (j := 9) hC1 (.int .i64 (n : Int))
      exact ⟨h.data, h.chs, h.fls, h.keep, h.ap⟩
    have HO2 := Lib.hid hO2
    clear hN hn hneg hO2 hO0
    go_wp2_with (go_at_call 138; refine (rnumber_as HV (by omega) _).mono ?_; rintro e w2 ⟨rfl, hw2⟩; rw [hw2]; clear hw2)
    refine close_fill hR2 rfl 0 rfl rfl fun W8 hb8 ho8 => ⟨⟨{ o with blk := (n : Int) }, .slice Ad nd cd, .slice Ab nb cb, sl_slice _ _ _, sl_slice _ _ _, ?_⟩, hb8 _ _ hRw hb2⟩
    rw [HF.out]; exact ⟨rfl, rfl, HO2.out.rest hR2 ho8⟩
set_option maxRecDepth 20000 in
set_option maxHeartbeats 1600000 in
theorem rfill_w (hO : OpO B o (.slice Ad nd cd) (.slice Ac nc cc) (.slice Af nf cf) (.slice Ab nb cb) kvs w) (hBw : B ≤ w.heap.size) (hy : y.length ≤ 2000000) :
    Calls Tryz.prog 143 #[.agg (opC o (.slice Ad nd cd) (.slice Ac nc cc) (.slice Af nf cf) (.slice Ab nb cb)), .int .u8 119, .string ⟨y.toArray⟩] w fun e w' => FillR B (.slice Ac nc cc) (.slice Af nf cf) kvs (fld o 119 (y :: r)) e w' ∧ Below w.heap.size w w' := by
  obtain ⟨v, hv⟩ : ∃ v, numI y = v := ⟨_, rfl⟩
  have HV := Lib.hid hv
  clear hv
  obtain ⟨hb0, hC0, hR0⟩ := boxes2 w (opC o (.slice Ad nd cd) (.slice Ac nc cc) (.slice Af nf cf) (.slice Ab nb cb))
  have hO0 := hO.on hb0
  clear hO
  simp only [opC] at hC0 hR0 ⊢
  go_enter Tryz.func143, Tryz.ntmps143
  go_upto_region 1 with fail
  simp only [opC, opp0, nl] at hb0 hC0 hR0 hO0
  generalize ((w.alloc (.cells #[.int .i64 o.kind, .int .i64 o.a, .int .i64 o.k, .int .i64 o.t, .int .i64 o.x, .int .i64 o.link, .slice Ad nd cd, .int .i64 o.sec, .int .i64 o.nano, .int .i64 o.blk, .int .i64 o.wid, .slice Ac nc cc, .slice Af nf cf, .slice Ab nb cb] 108)).alloc (.cells #[.int .i64 0, .int .i64 0, .int .i64 0, .int .i64 0, .int .i64 0, .int .i64 0, .slice none 0 0, .int .i64 0, .int .i64 0, .int .i64 0, .int .i64 0, .slice none 0 0, .slice none 0 0, .slice none 0 0] 108)) = W0 at hb0 hC0 hR0 hO0 ⊢
  obtain ⟨C, hC⟩ : ∃ C, w.heap.size = C := ⟨_, rfl⟩
  have hCw : w.heap.size ≤ C := Nat.le_of_eq hC
  have hRw : w.heap.size ≤ C + 1 := by omega
  rw [hC] at hC0 hR0 ⊢
  clear hC
  have hCR : C ≠ C + 1 := by omega
  have hC1 : Blk C (opC o (.slice Ad nd cd) (.slice Ac nc cc) (.slice Af nf cf) (.slice Ab nb cb)) 108 W0 := hC0
  have hR1 : Blk (C + 1) (opC opp0 nl nl nl nl) 108 W0 := hR0
  clear hC0 hR0
  have hCl := hC1.lt
  have hRl := hR1.lt
  have hN : isNum 119 := by unfold isNum; decide
  obtain ⟨e0, e1, e2, e3, e4, e5, e6, e7, e8, e9, e10, e11, e12, e13, fr⟩ := opC_cells hC1
  obtain ⟨r0, r1, r2, r3, r4, r5, r6, r7, r8, r9, r10, r11, r12, r13, fr0⟩ := opC_cells hR1
  simp only [opp0, nl] at r0 r1 r2 r3 r4 r5 r6 r7 r8 r9 r10 r11 r12 r13
  have hR2 := (Below.heap_setCell W0 ⟨C, 10, none⟩ (.int .i64 v) (C + 1) (by simp)).trans hR1
  have hR2 : Blk (C + 1) (opC opp0 nl nl nl nl) 108 (W0.setCell ⟨C, 10, none⟩ (.int .i64 v)) := hR2
  have hb2 := hb0.setCell (p := ⟨C, 10, none⟩) hCw (.int .i64 v)
  by_cases hneg : v < 0
  · obtain rfl := numI_neg1 HV.out hneg
    have HF : Hid (fld o 119 (y :: r) = .error 223) := Lib.hid (by rw [fld_num hN, numI_neg HV.out hneg])
    clear hN hneg
    go_wp2_with (go_at_call 138; refine (rnumber_as HV (by omega) _).mono ?_; rintro e w2 ⟨rfl, hw2⟩; rw [hw2]; clear hw2)
    refine close_fill hR2 rfl 223 rfl rfl fun W8 hb8 ho8 => ⟨⟨{ o with wid := -1 }, .slice Ad nd cd, .slice Ab nb cb, sl_slice _ _ _, sl_slice _ _ _, ?_⟩, hb8 _ _ hRw hb2⟩
    rw [HF.out]; exact rfl
  · obtain ⟨n, hn, rfl⟩ := numI_pos HV.out hneg
    have HF : Hid (fld o 119 (y :: r) = .ok { o with wid := (n : Int) }) := Lib.hid (by rw [fld_num hN, hn]; rfl)
    have hg : (0 : Int) ≤ (n : Int) := by omega
    have hO2 : OpO B { o with wid := (n : Int) } (.slice Ad nd cd) (.slice Ac nc cc) (.slice Af nf cf) (.slice Ab nb cb) kvs (W0.setCell ⟨C, 10, none⟩ (.int .i64 (n : Int))) := by
      have h := hO0.set (j := 10) hC1 (.int .i64 (n : Int))
      exact ⟨h.data, h.chs, h.fls, h.keep, h.ap⟩
    have HO2 := Lib.hid hO2
    clear hN hn hneg hO2 hO0
    go_wp2_with (go_at_call 138; refine (rnumber_as HV (by omega) _).mono ?_; rintro e w2 ⟨rfl, hw2⟩; rw [hw2]; clear hw2)
    refine close_fill hR2 rfl 0 rfl rfl fun W8 hb8 ho8 => ⟨⟨{ o with wid := (n : Int) }, .slice Ad nd cd, .slice Ab nb cb, sl_slice _ _ _, sl_slice _ _ _, ?_⟩, hb8 _ _ hRw hb2⟩
    rw [HF.out]; exact ⟨rfl, rfl, HO2.out.rest hR2 ho8⟩
set_option maxRecDepth 20000 in
set_option maxHeartbeats 1600000 in
theorem rfill_D (hO : OpO B o (.slice Ad nd cd) (.slice Ac nc cc) (.slice Af nf cf) (.slice Ab nb cb) kvs w) (hBw : B ≤ w.heap.size) (hy : y.length ≤ 2000000) :
    Calls Tryz.prog 143 #[.agg (opC o (.slice Ad nd cd) (.slice Ac nc cc) (.slice Af nf cf) (.slice Ab nb cb)), .int .u8 68, .string ⟨y.toArray⟩] w fun e w' => FillR B (.slice Ac nc cc) (.slice Af nf cf) kvs (fld o 72 (y :: r)) e w' ∧ Below w.heap.size w w' := by
  obtain ⟨v, hv⟩ : ∃ v, numI y = v := ⟨_, rfl⟩
  have HV := Lib.hid hv
  clear hv
  obtain ⟨hb0, hC0, hR0⟩ := boxes2 w (opC o (.slice Ad nd cd) (.slice Ac nc cc) (.slice Af nf cf) (.slice Ab nb cb))
  have hO0 := hO.on hb0
  have hkl : ∀ (i : Nat) u g, kvs[i]? = some u → u.ownBlock = some g → g < w.heap.size := fun i u g hu hg => by
    obtain ⟨d, hd⟩ : ∃ d, o.chs[i]? = some d := ⟨_, List.getElem?_eq_getElem (by rw [← hO.chs.len]; exact (List.getElem?_eq_some_iff.1 hu).1)⟩
    exact ((hO.chs.own i d u hd hu).lt g hg).2
  have HKL := Lib.hid hkl
  clear hkl hO
  simp only [opC] at hC0 hR0 ⊢
  go_enter Tryz.func143, Tryz.ntmps143
  go_upto_region 1 with fail
  simp only [opC, opp0, nl] at hb0 hC0 hR0 hO0
  generalize ((w.alloc (.cells #[.int .i64 o.kind, .int .i64 o.a, .int .i64 o.k, .int .i64 o.t, .int .i64 o.x, .int .i64 o.link, .slice Ad nd cd, .int .i64 o.sec, .int .i64 o.nano, .int .i64 o.blk, .int .i64 o.wid, .slice Ac nc cc, .slice Af nf cf, .slice Ab nb cb] 108)).alloc (.cells #[.int .i64 0, .int .i64 0, .int .i64 0, .int .i64 0, .int .i64 0, .int .i64 0, .slice none 0 0, .int .i64 0, .int .i64 0, .int .i64 0, .int .i64 0, .slice none 0 0, .slice none 0 0, .slice none 0 0] 108)) = W0 at hb0 hC0 hR0 hO0 ⊢
  obtain ⟨C, hC⟩ : ∃ C, w.heap.size = C := ⟨_, rfl⟩
  have hCw : w.heap.size ≤ C := Nat.le_of_eq hC
  have hRw : w.heap.size ≤ C + 1 := by omega
  rw [hC] at hC0 hR0 ⊢
  clear hC
  have hCR : C ≠ C + 1 := by omega
  have hC1 : Blk C (opC o (.slice Ad nd cd) (.slice Ac nc cc) (.slice Af nf cf) (.slice Ab nb cb)) 108 W0 := hC0
  have hR1 : Blk (C + 1) (opC opp0 nl nl nl nl) 108 W0 := hR0
  clear hC0 hR0
  have hCl := hC1.lt
  have hRl := hR1.lt
  obtain ⟨ho, hho⟩ : ∃ ho, hexW y = ho := ⟨_, rfl⟩
  have HH := Lib.hid hho
  clear hho
  obtain ⟨e0, e1, e2, e3, e4, e5, e6, e7, e8, e9, e10, e11, e12, e13, fr⟩ := opC_cells hC1
  obtain ⟨r0, r1, r2, r3, r4, r5, r6, r7, r8, r9, r10, r11, r12, r13, fr0⟩ := opC_cells hR1
  simp only [opp0, nl] at r0 r1 r2 r3 r4 r5 r6 r7 r8 r9 r10 r11 r12 r13
  go_wp2_with fail
  refine (rnumber_as HV (by omega) _).mono ?_
  rintro e w2 ⟨rfl, hw2⟩
  rw [hw2]
  clear hw2
  have hg0 : True := trivial
  go_wp2_with fail
  refine (rhex_as HH (by omega) _).mono ?_
  rintro e w3 ⟨hres, hb3⟩
  have hC3 := hC1.on hb3
  have hR3 := hR1.on hb3
  have hO3 := hO0.on hb3
  have hb4 := hb0.trans (hb3.mono hb0.size)
  have hW0 : C + 1 < W0.heap.size := hRl
  clear e0 e1 e2 e3 e4 e5 e6 e7 e8 e9 e10 e11 e12 e13 fr r0 r1 r2 r3 r4 r5 r6 r7 r8 r9 r10 r11 r12 r13 fr0 hO0
  obtain ⟨e0, e1, e2, e3, e4, e5, e6, e7, e8, e9, e10, e11, e12, e13, fr⟩ := opC_cells hC3
  obtain ⟨r0, r1, r2, r3, r4, r5, r6, r7, r8, r9, r10, r11, r12, r13, fr0⟩ := opC_cells hR3
  simp only [opp0, nl] at r0 r1 r2 r3 r4 r5 r6 r7 r8 r9 r10 r11 r12 r13
  cases ho with
  | none =>
    obtain ⟨Ax, nx, kx, rfl⟩ := hres
    have HF : Hid (fld o 72 (y :: r) = .error 225) := Lib.hid (by unfold fld; rw [if_pos rfl, List.headD_cons, HH.out])
    have hR5 : Blk (C + 1) (opC opp0 nl nl nl nl) 108 (w3.setCell ⟨C, 6, none⟩ (.slice Ax nx kx)) := (Below.heap_setCell w3 ⟨C, 6, none⟩ _ (C + 1) (by simp)).trans hR3
    have hb5 := hb4.setCell (p := ⟨C, 6, none⟩) hCw (.slice Ax nx kx)
    clear hb3 hb4 hO3
    go_wp2
    refine close_fill hR5 rfl 225 rfl rfl fun W8 hb8 ho8 => ⟨⟨o, .slice Ax nx kx, .slice Ab nb cb, sl_slice _ _ _, sl_slice _ _ _, ?_⟩, hb8 _ _ hRw hb5⟩
    rw [HF.out]; exact rfl
  | some b =>
    obtain ⟨Ax, kx, rfl, hob⟩ := hres
    have HF : Hid (fld o 72 (y :: r) = .ok { o with data := b }) := Lib.hid (by unfold fld; rw [if_pos rfl, List.headD_cons, HH.out])
    have hob' := own_low hob (Nat.le_trans hBw hb0.size)
    have hap : ∀ (i : Nat) u g, kvs[i]? = some u → u.ownBlock = some g → (Value.slice Ax b.length kx).ownBlock ≠ some g := fun i u g hu hg e => by
      have h1 := HKL.out i u g hu hg
      have h2 := (hob.lt g e).1
      omega
    have hO4 : OpO B { o with data := b } (.slice Ax b.length kx) (.slice Ac nc cc) (.slice Af nf cf) (.slice Ab nb cb) kvs w3 := ⟨hob', hO3.chs, hO3.fls, hO3.keep, hap⟩
    have HO5 := Lib.hid (hO4.set (j := 6) hC3 (.slice Ax b.length kx))
    obtain ⟨nx, hnx⟩ : ∃ n, b.length = n := ⟨_, rfl⟩
    rw [hnx] at HO5 ⊢
    have hR5 : Blk (C + 1) (opC opp0 nl nl nl nl) 108 (w3.setCell ⟨C, 6, none⟩ (.slice Ax nx kx)) := (Below.heap_setCell w3 ⟨C, 6, none⟩ _ (C + 1) (by simp)).trans hR3
    have hb5 := hb4.setCell (p := ⟨C, 6, none⟩) hCw (.slice Ax nx kx)
    clear hb3 hb4 hO3 hO4 hob hob' hap hnx
    go_wp2
    refine close_fill hR5 rfl 0 rfl rfl fun W8 hb8 ho8 => ⟨⟨{ o with data := b }, .slice Ax nx kx, .slice Ab nb cb, sl_slice _ _ _, sl_slice _ _ _, ?_⟩, hb8 _ _ hRw hb5⟩
    rw [HF.out]; exact ⟨rfl, rfl, HO5.out.rest hR5 ho8⟩
set_option maxRecDepth 20000 in
set_option maxHeartbeats 1600000 in
theorem rfill_B (hO : OpO B o (.slice Ad nd cd) (.slice Ac nc cc) (.slice Af nf cf) (.slice Ab nb cb) kvs w) (hBw : B ≤ w.heap.size) (hy : y.length ≤ 2000000) :
    Calls Tryz.prog 143 #[.agg (opC o (.slice Ad nd cd) (.slice Ac nc cc) (.slice Af nf cf) (.slice Ab nb cb)), .int .u8 66, .string ⟨y.toArray⟩] w fun e w' => FillR B (.slice Ac nc cc) (.slice Af nf cf) kvs (fld o 66 (y :: r)) e w' ∧ Below w.heap.size w w' := by
  obtain ⟨v, hv⟩ : ∃ v, numI y = v := ⟨_, rfl⟩
  have HV := Lib.hid hv
  clear hv
  obtain ⟨hb0, hC0, hR0⟩ := boxes2 w (opC o (.slice Ad nd cd) (.slice Ac nc cc) (.slice Af nf cf) (.slice Ab nb cb))
  have hO0 := hO.on hb0
  clear hO
  simp only [opC] at hC0 hR0 ⊢
  go_enter Tryz.func143, Tryz.ntmps143
  go_upto_region 1 with fail
  simp only [opC, opp0, nl] at hb0 hC0 hR0 hO0
  generalize ((w.alloc (.cells #[.int .i64 o.kind, .int .i64 o.a, .int .i64 o.k, .int .i64 o.t, .int .i64 o.x, .int .i64 o.link, .slice Ad nd cd, .int .i64 o.sec, .int .i64 o.nano, .int .i64 o.blk, .int .i64 o.wid, .slice Ac nc cc, .slice Af nf cf, .slice Ab nb cb] 108)).alloc (.cells #[.int .i64 0, .int .i64 0, .int .i64 0, .int .i64 0, .int .i64 0, .int .i64 0, .slice none 0 0, .int .i64 0, .int .i64 0, .int .i64 0, .int .i64 0, .slice none 0 0, .slice none 0 0, .slice none 0 0] 108)) = W0 at hb0 hC0 hR0 hO0 ⊢
  obtain ⟨C, hC⟩ : ∃ C, w.heap.size = C := ⟨_, rfl⟩
  have hCw : w.heap.size ≤ C := Nat.le_of_eq hC
  have hRw : w.heap.size ≤ C + 1 := by omega
  rw [hC] at hC0 hR0 ⊢
  clear hC
  have hCR : C ≠ C + 1 := by omega
  have hC1 : Blk C (opC o (.slice Ad nd cd) (.slice Ac nc cc) (.slice Af nf cf) (.slice Ab nb cb)) 108 W0 := hC0
  have hR1 : Blk (C + 1) (opC opp0 nl nl nl nl) 108 W0 := hR0
  clear hC0 hR0
  have hCl := hC1.lt
  have hRl := hR1.lt
  obtain ⟨ho, hho⟩ : ∃ ho, bitW y = ho := ⟨_, rfl⟩
  have HH := Lib.hid hho
  clear hho
  obtain ⟨e0, e1, e2, e3, e4, e5, e6, e7, e8, e9, e10, e11, e12, e13, fr⟩ := opC_cells hC1
  obtain ⟨r0, r1, r2, r3, r4, r5, r6, r7, r8, r9, r10, r11, r12, r13, fr0⟩ := opC_cells hR1
  simp only [opp0, nl] at r0 r1 r2 r3 r4 r5 r6 r7 r8 r9 r10 r11 r12 r13
  go_wp2_with fail
  refine (rnumber_as HV (by omega) _).mono ?_
  rintro e w2 ⟨rfl, hw2⟩
  rw [hw2]
  clear hw2
  have hg0 : True := trivial
  go_wp2_with fail
  refine (rbits_as HH (by omega) _).mono ?_
  rintro e w3 ⟨hres, hb3⟩
  have hC3 := hC1.on hb3
  have hR3 := hR1.on hb3
  have hO3 := hO0.on hb3
  have hb4 := hb0.trans (hb3.mono hb0.size)
  have hW0 : C + 1 < W0.heap.size := hRl
  clear e0 e1 e2 e3 e4 e5 e6 e7 e8 e9 e10 e11 e12 e13 fr r0 r1 r2 r3 r4 r5 r6 r7 r8 r9 r10 r11 r12 r13 fr0 hO0
  obtain ⟨e0, e1, e2, e3, e4, e5, e6, e7, e8, e9, e10, e11, e12, e13, fr⟩ := opC_cells hC3
  obtain ⟨r0, r1, r2, r3, r4, r5, r6, r7, r8, r9, r10, r11, r12, r13, fr0⟩ := opC_cells hR3
  simp only [opp0, nl] at r0 r1 r2 r3 r4 r5 r6 r7 r8 r9 r10 r11 r12 r13
  cases ho with
  | none =>
    obtain ⟨Ax, nx, kx, rfl⟩ := hres
    have HF : Hid (fld o 66 (y :: r) = .error 223) := Lib.hid (by unfold fld; rw [if_neg (by decide), if_neg (by decide), if_pos rfl, List.headD_cons, HH.out])
    have hR5 : Blk (C + 1) (opC opp0 nl nl nl nl) 108 (w3.setCell ⟨C, 13, none⟩ (.slice Ax nx kx)) := (Below.heap_setCell w3 ⟨C, 13, none⟩ _ (C + 1) (by simp)).trans hR3
    have hb5 := hb4.setCell (p := ⟨C, 13, none⟩) hCw (.slice Ax nx kx)
    clear hb3 hb4 hO3
    go_wp2
    refine close_fill hR5 rfl 223 rfl rfl fun W8 hb8 ho8 => ⟨⟨o, .slice Ad nd cd, .slice Ax nx kx, sl_slice _ _ _, sl_slice _ _ _, ?_⟩, hb8 _ _ hRw hb5⟩
    rw [HF.out]; exact rfl
  | some b =>
    obtain ⟨Ax, kx, rfl, hob⟩ := hres
    have HF : Hid (fld o 66 (y :: r) = .ok { o with keep := b }) := Lib.hid (by unfold fld; rw [if_neg (by decide), if_neg (by decide), if_pos rfl, List.headD_cons, HH.out])
    have hob' := own_low hob (Nat.le_trans hBw hb0.size)
    have hap : True := trivial
    have hO4 : OpO B { o with keep := b } (.slice Ad nd cd) (.slice Ac nc cc) (.slice Af nf cf) (.slice Ax b.length kx) kvs w3 := ⟨hO3.data, hO3.chs, hO3.fls, hob', hO3.ap⟩
    have HO5 := Lib.hid (hO4.set (j := 13) hC3 (.slice Ax b.length kx))
    obtain ⟨nx, hnx⟩ : ∃ n, b.length = n := ⟨_, rfl⟩
    rw [hnx] at HO5 ⊢
    have hR5 : Blk (C + 1) (opC opp0 nl nl nl nl) 108 (w3.setCell ⟨C, 13, none⟩ (.slice Ax nx kx)) := (Below.heap_setCell w3 ⟨C, 13, none⟩ _ (C + 1) (by simp)).trans hR3
    have hb5 := hb4.setCell (p := ⟨C, 13, none⟩) hCw (.slice Ax nx kx)
    clear hb3 hb4 hO3 hO4 hob hob' hap hnx
    go_wp2
    refine close_fill hR5 rfl 0 rfl rfl fun W8 hb8 ho8 => ⟨⟨{ o with keep := b }, .slice Ad nd cd, .slice Ax nx kx, sl_slice _ _ _, sl_slice _ _ _, ?_⟩, hb8 _ _ hRw hb5⟩
    rw [HF.out]; exact ⟨rfl, rfl, HO5.out.rest hR5 ho8⟩
set_option maxRecDepth 20000 in
set_option maxHeartbeats 1600000 in
theorem rfill_S (hO : OpO B o (.slice Ad nd cd) (.slice Ac nc cc) (.slice Af nf cf) (.slice Ab nb cb) kvs w) (hBw : B ≤ w.heap.size) (hy : y.length ≤ 2000000) :
    Calls Tryz.prog 143 #[.agg (opC o (.slice Ad nd cd) (.slice Ac nc cc) (.slice Af nf cf) (.slice Ab nb cb)), .int .u8 83, .string ⟨y.toArray⟩] w fun e w' => FillR B (.slice Ac nc cc) (.slice Af nf cf) kvs (fld o 83 (y :: r)) e w' ∧ Below w.heap.size w w' := by
  obtain ⟨v, hv⟩ : ∃ v, numI y = v := ⟨_, rfl⟩
  have HV := Lib.hid hv
  clear hv
  obtain ⟨hb0, hC0, hR0⟩ := boxes2 w (opC o (.slice Ad nd cd) (.slice Ac nc cc) (.slice Af nf cf) (.slice Ab nb cb))
  have hO0 := hO.on hb0
  clear hO
  simp only [opC] at hC0 hR0 ⊢
  go_enter Tryz.func143, Tryz.ntmps143
  go_upto_region 1 with fail
  simp only [opC, opp0, nl] at hb0 hC0 hR0 hO0
  generalize ((w.alloc (.cells #[.int .i64 o.kind, .int .i64 o.a, .int .i64 o.k, .int .i64 o.t, .int .i64 o.x, .int .i64 o.link, .slice Ad nd cd, .int .i64 o.sec, .int .i64 o.nano, .int .i64 o.blk, .int .i64 o.wid, .slice Ac nc cc, .slice Af nf cf, .slice Ab nb cb] 108)).alloc (.cells #[.int .i64 0, .int .i64 0, .int .i64 0, .int .i64 0, .int .i64 0, .int .i64 0, .slice none 0 0, .int .i64 0, .int .i64 0, .int .i64 0, .int .i64 0, .slice none 0 0, .slice none 0 0, .slice none 0 0] 108)) = W0 at hb0 hC0 hR0 hO0 ⊢
  obtain ⟨C, hC⟩ : ∃ C, w.heap.size = C := ⟨_, rfl⟩
  have hCw : w.heap.size ≤ C := Nat.le_of_eq hC
  have hRw : w.heap.size ≤ C + 1 := by omega
  rw [hC] at hC0 hR0 ⊢
  clear hC
  have hCR : C ≠ C + 1 := by omega
  have hC1 : Blk C (opC o (.slice Ad nd cd) (.slice Ac nc cc) (.slice Af nf cf) (.slice Ab nb cb)) 108 W0 := hC0
  have hR1 : Blk (C + 1) (opC opp0 nl nl nl nl) 108 W0 := hR0
  clear hC0 hR0
  have hCl := hC1.lt
  have hRl := hR1.lt
  obtain ⟨ho, hho⟩ : ∃ ho, prs y = ho := ⟨_, rfl⟩
  have HH := Lib.hid hho
  clear hho
  obtain ⟨e0, e1, e2, e3, e4, e5, e6, e7, e8, e9, e10, e11, e12, e13, fr⟩ := opC_cells hC1
  obtain ⟨r0, r1, r2, r3, r4, r5, r6, r7, r8, r9, r10, r11, r12, r13, fr0⟩ := opC_cells hR1
  simp only [opp0, nl] at r0 r1 r2 r3 r4 r5 r6 r7 r8 r9 r10 r11 r12 r13
  go_wp2_with fail
  refine (rnumber_as HV (by omega) _).mono ?_
  rintro e w2 ⟨rfl, hw2⟩
  rw [hw2]
  clear hw2
  have hg0 : True := trivial
  go_wp2_with fail
  refine (rstamp_as HH (by omega) _).mono ?_
  rintro e w3 ⟨rfl, hb3⟩
  have hC3 := hC1.on hb3
  have hR3 := hR1.on hb3
  have hO3 := hO0.on hb3
  have hb4 := hb0.trans (hb3.mono hb0.size)
  have hW0 : C + 1 < W0.heap.size := hRl
  clear e0 e1 e2 e3 e4 e5 e6 e7 e8 e9 e10 e11 e12 e13 fr r0 r1 r2 r3 r4 r5 r6 r7 r8 r9 r10 r11 r12 r13 fr0 hO0
  obtain ⟨e0, e1, e2, e3, e4, e5, e6, e7, e8, e9, e10, e11, e12, e13, fr⟩ := opC_cells hC3
  obtain ⟨r0, r1, r2, r3, r4, r5, r6, r7, r8, r9, r10, r11, r12, r13, fr0⟩ := opC_cells hR3
  simp only [opp0, nl] at r0 r1 r2 r3 r4 r5 r6 r7 r8 r9 r10 r11 r12 r13
  cases ho with
  | none =>
    have HF : Hid (fld o 83 (y :: r) = .error 60) := Lib.hid (by unfold fld; rw [if_neg (by decide), if_pos rfl, List.headD_cons, HH.out])
    simp only [St.ofPrs]
    have hCa : Blk C (opC o (.slice Ad nd cd) (.slice Ac nc cc) (.slice Af nf cf) (.slice Ab nb cb)) 108 (w3.alloc (.cells #[.int .i64 0, .int .i64 0] 102)) := hC3.on (one w3 _)
    have hRa : Blk (C + 1) (opC opp0 nl nl nl nl) 108 (w3.alloc (.cells #[.int .i64 0, .int .i64 0] 102)) := hR3.on (one w3 _)
    have hba : Below w.heap.size w (w3.alloc (.cells #[.int .i64 0, .int .i64 0] 102)) := hb4.alloc hb4.size _
    have hOa : OpO B o (.slice Ad nd cd) (.slice Ac nc cc) (.slice Af nf cf) (.slice Ab nb cb) kvs (w3.alloc (.cells #[.int .i64 0, .int .i64 0] 102)) := hO3.on (one w3 _)
    have hR5 : Blk (C + 1) (opC opp0 nl nl nl nl) 108 (((w3.alloc (.cells #[.int .i64 0, .int .i64 0] 102)).setCell ⟨C, 7, none⟩ (.int .i64 0)).setCell ⟨C, 8, none⟩ (.int .i64 0)) := (Below.heap_setCell _ ⟨C, 8, none⟩ _ (C + 1) (by simp)).trans ((Below.heap_setCell _ ⟨C, 7, none⟩ _ (C + 1) (by simp)).trans hRa)
    have hb5 := (hba.setCell (p := ⟨C, 7, none⟩) hCw (.int .i64 0)).setCell (p := ⟨C, 8, none⟩) hCw (.int .i64 0)
    have hOb := (hOa.set (j := 7) hCa (.int .i64 0)).set (j := 8) (hCa.set 7 (.int .i64 0)) (.int .i64 0)
    have hOc : OpO B { o with sec := 0, nano := 0 } (.slice Ad nd cd) (.slice Ac nc cc) (.slice Af nf cf) (.slice Ab nb cb) kvs _ := ⟨hOb.data, hOb.chs, hOb.fls, hOb.keep, hOb.ap⟩
    have HO5 := Lib.hid hOc
    clear e0 e1 e2 e3 e4 e5 e6 e7 e8 e9 e10 e11 e12 e13 fr r0 r1 r2 r3 r4 r5 r6 r7 r8 r9 r10 r11 r12 r13 fr0
    obtain ⟨e0, e1, e2, e3, e4, e5, e6, e7, e8, e9, e10, e11, e12, e13, fr⟩ := opC_cells hCa
    obtain ⟨r0, r1, r2, r3, r4, r5, r6, r7, r8, r9, r10, r11, r12, r13, fr0⟩ := opC_cells hRa
    simp only [opp0, nl] at r0 r1 r2 r3 r4 r5 r6 r7 r8 r9 r10 r11 r12 r13
    clear hb3 hb4 hO3 hOa hOb hOc hCa hRa hC3 hR3 hba
    go_wp2
    refine close_fill hR5 rfl 60 rfl rfl fun W8 hb8 ho8 => ⟨⟨{ o with sec := 0, nano := 0 }, .slice Ad nd cd, .slice Ab nb cb, sl_slice _ _ _, sl_slice _ _ _, ?_⟩, hb8 _ _ hRw hb5⟩
    rw [HF.out]; exact rfl
  | some q =>
    obtain ⟨q1, q2⟩ := q
    have HF : Hid (fld o 83 (y :: r) = .ok { o with sec := q1, nano := q2 }) := Lib.hid (by unfold fld; rw [if_neg (by decide), if_pos rfl, List.headD_cons, HH.out])
    simp only [St.ofPrs]
    have hCa : Blk C (opC o (.slice Ad nd cd) (.slice Ac nc cc) (.slice Af nf cf) (.slice Ab nb cb)) 108 (w3.alloc (.cells #[.int .i64 q1, .int .i64 q2] 102)) := hC3.on (one w3 _)
    have hRa : Blk (C + 1) (opC opp0 nl nl nl nl) 108 (w3.alloc (.cells #[.int .i64 q1, .int .i64 q2] 102)) := hR3.on (one w3 _)
    have hba : Below w.heap.size w (w3.alloc (.cells #[.int .i64 q1, .int .i64 q2] 102)) := hb4.alloc hb4.size _
    have hOa : OpO B o (.slice Ad nd cd) (.slice Ac nc cc) (.slice Af nf cf) (.slice Ab nb cb) kvs (w3.alloc (.cells #[.int .i64 q1, .int .i64 q2] 102)) := hO3.on (one w3 _)
    have hR5 : Blk (C + 1) (opC opp0 nl nl nl nl) 108 (((w3.alloc (.cells #[.int .i64 q1, .int .i64 q2] 102)).setCell ⟨C, 7, none⟩ (.int .i64 q1)).setCell ⟨C, 8, none⟩ (.int .i64 q2)) := (Below.heap_setCell _ ⟨C, 8, none⟩ _ (C + 1) (by simp)).trans ((Below.heap_setCell _ ⟨C, 7, none⟩ _ (C + 1) (by simp)).trans hRa)
    have hb5 := (hba.setCell (p := ⟨C, 7, none⟩) hCw (.int .i64 q1)).setCell (p := ⟨C, 8, none⟩) hCw (.int .i64 q2)
    have hOb := (hOa.set (j := 7) hCa (.int .i64 q1)).set (j := 8) (hCa.set 7 (.int .i64 q1)) (.int .i64 q2)
    have hOc : OpO B { o with sec := q1, nano := q2 } (.slice Ad nd cd) (.slice Ac nc cc) (.slice Af nf cf) (.slice Ab nb cb) kvs _ := ⟨hOb.data, hOb.chs, hOb.fls, hOb.keep, hOb.ap⟩
    have HO5 := Lib.hid hOc
    clear e0 e1 e2 e3 e4 e5 e6 e7 e8 e9 e10 e11 e12 e13 fr r0 r1 r2 r3 r4 r5 r6 r7 r8 r9 r10 r11 r12 r13 fr0
    obtain ⟨e0, e1, e2, e3, e4, e5, e6, e7, e8, e9, e10, e11, e12, e13, fr⟩ := opC_cells hCa
    obtain ⟨r0, r1, r2, r3, r4, r5, r6, r7, r8, r9, r10, r11, r12, r13, fr0⟩ := opC_cells hRa
    simp only [opp0, nl] at r0 r1 r2 r3 r4 r5 r6 r7 r8 r9 r10 r11 r12 r13
    clear hb3 hb4 hO3 hOa hOb hOc hCa hRa hC3 hR3 hba
    go_wp2
    refine close_fill hR5 rfl 0 rfl rfl fun W8 hb8 ho8 => ⟨⟨{ o with sec := q1, nano := q2 }, .slice Ad nd cd, .slice Ab nb cb, sl_slice _ _ _, sl_slice _ _ _, ?_⟩, hb8 _ _ hRw hb5⟩
    rw [HF.out]; exact ⟨rfl, rfl, HO5.out.rest hR5 ho8⟩
end
end Go.Proofs.YtpkmekdpmkfcdaaGreatDoor.Sr
