/- Contract of the reference: a whole script read. Contract of the reference: the words of a step. The walk of the statement on Parse and the reference. -/
import Derived.Test.YtpkmekdpmkfcdaaGreatDoorSqM
import Derived.Test.YtpkmekdpmkfcdaaGreatDoorSmI
import Derived.Test.YtpkmekdpmkfcdaaGreatDoorSqN
namespace Go.Proofs.YtpkmekdpmkfcdaaGreatDoor.Sr
set_option linter.unusedVariables false
set_option linter.unusedSimpArgs false
open Go.RowKit Go.Proofs.YtpkmekdpmkfcdaaGreatDoor.Wd Go.Proofs.YtpkmekdpmkfcdaaGreatDoor.Px Go.Proofs.YtpkmekdpmkfcdaaGreatDoor.By Go.Proofs.YtpkmekdpmkfcdaaGreatDoor.En Go.Proofs.YtpkmekdpmkfcdaaGreatDoor.Pl Go.Proofs.YtpkmekdpmkfcdaaGreatDoor.Pf Go.Proofs.YtpkmekdpmkfcdaaGreatDoor.Sc

/-- what the reference's step answers (proved elsewhere) -/
def RStep : Prop := ∀ (x : List UInt8) (xs : List (List UInt8)) (A : Option Addr) (c : Nat) (w : World), Env w → (x :: xs).length ≤ 2000000 → (x :: xs).length ≤ c → Shows strc w w.heap.size A (x :: xs) → (∀ y ∈ x :: xs, y.length ≤ 2000000) →
  Calls Tryz.prog 53 #[.slice A (x :: xs).length c] w fun e w' => StepR (stepS (x :: xs)) w e w' ∧ Below w.heap.size w w'
theorem rstep_as (hstep : RStep) {x : List UInt8} {xs : List (List UInt8)} {N : Nat} (HN : Hid ((x :: xs).length = N)) {r : Except Int Opp} (hr : Hid (stepS (x :: xs) = r)) (A : Option Addr) (c : Nat) (w : World) (hE : Env w) (hl : N ≤ 2000000) (hc : N ≤ c) (hs : Shows strc w w.heap.size A (x :: xs)) (hw : ∀ y ∈ x :: xs, y.length ≤ 2000000) :
  Calls Tryz.prog 53 #[.slice A N c] w fun e w' => StepR r w e w' ∧ Below w.heap.size w w' := by
 have hn := HN.out
 subst hn
 have := hstep x xs A c w hE hl hc hs hw
 rwa [hr.out] at this
theorem rfirst_as {x : List UInt8} {xs : List (List UInt8)} {N : Nat} (HN : Hid ((x :: xs).length = N)) {v : Value} (hv : Hid (ofF (firstS (x :: xs)) = v)) (A : Option Addr) (c : Nat) (w : World) (hl : N ≤ 2000000) (hs : Shows strc w w.heap.size A (x :: xs)) (hw : ∀ y ∈ x :: xs, y.length ≤ 2000000) :
  Calls Tryz.prog 52 #[.slice A N c] w fun e w' => e = .returned v ∧ Below w.heap.size w w' := by
 have hn := HN.out
 subst hn
 have := rfirst_any x xs A c w hl hs hw
 rwa [hv.out] at this
theorem rlinesw_as {t : List UInt8} {ls : List (List UInt8)} {N : Nat} (h : Hid (split 10 t = ls)) (hN : Hid (ls.length = N)) (ht : t.length ≤ 1999990) (w : World) :
  Calls Tryz.prog 32 #[.string ⟨t.toArray⟩] w fun e w' => (∃ A c, e = .returned (.slice A N c) ∧ Shows strc w' w'.heap.size A ls) ∧ Below w.heap.size w w' := by
 have := rlines_any t ht w
 rw [h.out, hN.out] at this
 refine this.mono ?_
 rintro e w' ⟨⟨A, c, rfl, hown⟩, hb⟩
 exact ⟨⟨A, c, rfl, (own_shows (l := ls) hown (Nat.le_refl _)).1⟩, hb⟩
theorem split_many (s : UInt8) : ∀ t : List UInt8, (split s t).length ≤ t.length + 1
 | [] => by simp [split]
 | c :: r => by
  have ih := split_many s r
  rw [split]
  split
  ·simp; omega
  ·split
   ·simp
   ·rename_i h t e
    rw [e] at ih
    simp at ih ⊢
    omega
theorem ORow.lowB {B B' : Nat} {v : Value} {l : List Opp} {vs : List Opv} {W : World} (h : ORow B v l vs W) (hb : B' ≤ B) : ORow B' v l vs W :=
 ⟨h.len, own_low h.row hb, fun i o x ho hx => by
  obtain ⟨h1, h2, h3⟩ := h.own i o x ho hx
  exact ⟨h1, Nat.le_trans hb h2, h3⟩, h.low, h.sep⟩
def GAt (ls : List (List UInt8)) (k : Nat) (st : Option Int × List Opp) : Prop := goL (none, []) 1 ls = goL st (k + 1) (ls.drop k)
theorem GAt.next {ls : List (List UInt8)} {k : Nat} {st st' : Option Int × List Opp} {a : List UInt8} (h : GAt ls k st) (ha : ls[k]? = some a) (hl : lineS st a = .ok st') : GAt ls (k + 1) st' := by
 unfold GAt at h ⊢
 obtain ⟨hk, e⟩ := List.getElem?_eq_some_iff.1 ha
 rw [h, List.drop_eq_getElem_cons hk, e, goL, hl]
theorem GAt.bad {ls : List (List UInt8)} {k : Nat} {st : Option Int × List Opp} {a : List UInt8} {x : Int} (h : GAt ls k st) (ha : ls[k]? = some a) (hl : lineS st a = .error x) : goL (none, []) 1 ls = .error (k + 1, x) := by
 unfold GAt at h
 obtain ⟨hk, e⟩ := List.getElem?_eq_some_iff.1 ha
 rw [h, List.drop_eq_getElem_cons hk, e, goL, hl]
theorem GAt.done {ls : List (List UInt8)} {st : Option Int × List Opp} (h : GAt ls ls.length st) : goL (none, []) 1 ls = .ok st := by
 unfold GAt at h
 rw [h, List.drop_of_length_le (Nat.le_refl _), goL]

set_option maxRecDepth 20000 in
/-- the result is written and read at the end -/
theorem close_rscr {W : World} {R : Nat} {a b v0 v1 : Value} {t : TypeId} (h : Blk R #[a, b] t W) {tmps : Array Value} {Qp : Ending → World → Prop}
  (no x : Int) (h2 : (tmps[2]?).getD undef = .pointer (some ⟨R, 0, none⟩)) (h3 : (tmps[3]?).getD undef = .int .i64 no) (h4 : (tmps[4]?).getD undef = .int .i64 x)
  (hQ : ∀ W8 : World, Blk R #[v0, v1] t W8 → (∀ B a, B ≤ R → Below B a W → Below B a W8) → (∀ g, g ≠ R → W8.heap[g]? = W.heap[g]?) → W.heap.size ≤ W8.heap.size → Qp (.returned (.tuple #[.agg #[v0, v1], .int .i64 no, .int .i64 x])) W8) :
  bodyPost Tryz.prog Tryz.f23 Qp .ret { tmps := tmps, defers := [] } ((W.setCell ⟨R, 0, none⟩ v0).setCell ⟨R, 1, none⟩ v1) := by
 have h8 : Blk R #[v0, v1] t ((W.setCell ⟨R, 0, none⟩ v0).setCell ⟨R, 1, none⟩ v1) := (h.set 0 v0).set 1 v1
 have hQ' := hQ _ h8 (fun B a hB hb => (hb.setCell hB v0).setCell hB v1) (fun g hg => (Below.heap_setCell _ ⟨R, 1, none⟩ v1 g hg).trans (Below.heap_setCell W ⟨R, 0, none⟩ v0 g hg)) (by simp [World.setCell])
 clear hQ h
 generalize ((W.setCell ⟨R, 0, none⟩ v0).setCell ⟨R, 1, none⟩ v1) = W8 at h8 hQ' ⊢
 have e0 : W8.cell? ⟨R, 0, none⟩ = some v0 := h8.cell rfl
 have e1 : W8.cell? ⟨R, 1, none⟩ = some v1 := h8.cell rfl
 clear h8
 exact bodyPost_ret (v := .tuple #[.agg #[v0, v1], .int .i64 no, .int .i64 x]) (by simp [results, Tryz.results23, go_sem, *]) rfl hQ'

set_option maxRecDepth 100000 in
set_option maxHeartbeats 8000000 in
theorem rparse_in (hstep : RStep) (t : List UInt8) (ht : t.length ≤ 1048576) (w : World) (hE : Env w) :
  Calls Tryz.prog 23 #[.string ⟨t.toArray⟩] w fun e w' => ParseR (parseS t) w e w' ∧ Below w.heap.size w w' := by
 obtain ⟨i0, hi0, hz0, hz1, hz2'⟩ := info_parts infoOp
 have i1 : ¬ (1048576 : Int) < (t.length : Int) := by omega
 obtain ⟨ls, hls⟩ : ∃ ls, split 10 t = ls := ⟨_, rfl⟩
 obtain ⟨NL, hNL⟩ : ∃ n, ls.length = n := ⟨_, rfl⟩
 have hNL2 : NL ≤ 1048577 := by have := split_many 10 t; rw [hls, hNL] at this; omega
 have HLE : Hid (∀ a ∈ ls, a.length ≤ 1048576) := Lib.hid (fun a ha => Nat.le_trans (split_le 10 t a (by rw [hls]; exact ha)) ht)
 have HPe : Hid (∀ q, goL (none, []) 1 ls = .error q → parseS t = .error q) := Lib.hid (fun q h => by unfold parseS; rw [if_neg (by omega), hls, h])
 have HPn : Hid (∀ l, goL (none, []) 1 ls = .ok (none, l) → parseS t = .error (0, 227)) := Lib.hid (fun q h => by unfold parseS; rw [if_neg (by omega), hls, h])
 have HPs : Hid (∀ n l, goL (none, []) 1 ls = .ok (some n, l) → parseS t = .ok (n, l)) := Lib.hid (fun n q h => by unfold parseS; rw [if_neg (by omega), hls, h])
 have HLS := Lib.hid hls
 have HNL := Lib.hid hNL
 clear hls hNL
 have hT2 : t.length ≤ 1999990 := by omega
 go_enter Tryz.func23, Tryz.ntmps23
 have hbR := one w (.cells #[.int .i64 0, .slice none 0 0] 60)
 have hRR : Blk w.heap.size #[.int .i64 0, .slice none 0 0] 60 (w.alloc (.cells #[.int .i64 0, .slice none 0 0] 60)) := blk_new w _ _
 go_wp2_with fail
 refine (rlinesw_as HLS HNL hT2 _).mono ?_
 rintro e w1 ⟨⟨AL, cL, rfl, hsL⟩, hb1⟩
 have hR1 := hRR.on hb1
 have hbw1 := hbR.trans (hb1.mono hbR.size)
 have hbw1' := hbw1
 have hS1 : Blk w1.heap.size #[.int .i64 0, .slice none 0 0] 60 (w1.alloc (.cells #[.int .i64 0, .slice none 0 0] 60)) := blk_new w1 _ _
 have hb2 := one w1 (.cells #[.int .i64 0, .slice none 0 0] 60)
 have hR2 := hR1.on hb2
 have hbw2 := hbw1.trans (hb2.mono hbw1.size)
 have hRS : w.heap.size < w1.heap.size := hR1.lt
 have HSL := Lib.hid hsL
 clear hRR hbR hb1 hR1 hbw1 hsL
 go_upto_region 5 with fail
 have HBB : Hid (∀ W, Below w1.heap.size w1 W → Below w.heap.size w W) := Lib.hid fun W h => hbw1'.trans (h.mono hbw1'.size)
 clear hbw1'
 generalize w1.alloc (.cells #[.int .i64 0, .slice none 0 0] 60) = w2 at hS1 hb2 hR2 hbw2 ⊢
 have hPI : PIn w1 w.heap.size w1.heap.size 0 (.slice none 0 0) [] [] w2 := ⟨hR2, hS1, ORow.nil _ _, hb2⟩
 have HPI := Lib.hid hPI
 clear hS1 hR2 hbw2 hPI
 clear hb2
 go_wp2_with fail
 go_loopw [7, 8] (fun b n wr => ∃ (st : Option Int × List Opp) (no k : Nat) (vs : List Opv) (A : Option Addr) (c : Nat), b = .bool st.1.isSome ∧ n = .int .i64 (no : Int) ∧ no ≤ NL ∧ Hid (GAt ls no st) ∧ Hid (st.2.length = k) ∧ k ≤ 2000 ∧ Hid (PIn w1 w.heap.size w1.heap.size (st.1.getD 0) (.slice A k c) st.2 vs wr)) (fun _ n _ => NL - (intOf n).toNat)
 case atStart => exact ⟨(none, []), 0, 0, [], none, 0, rfl, rfl, Nat.zero_le _, Lib.hid rfl, Lib.hid rfl, by omega, HPI⟩
 case round =>
  obtain ⟨⟨so, l⟩, no, k, vs, A, c, rfl, rfl, hno, HA, HK, hk, HI⟩ := hrel
  clear HPI
  have hSw0 : w.heap.size ≤ w1.heap.size := Nat.le_of_lt hRS
  by_cases hlt : no < NL
  ·have j0 : (no : Int) < (NL : Int) := by omega
   obtain ⟨a, ha⟩ : ∃ a, ls[no]? = some a := ⟨_, List.getElem?_eq_getElem (by rw [HNL.out]; exact hlt)⟩
   obtain ⟨bL, oL, rfl, hbL, hcL⟩ := HSL.out (by rw [HNL.out]; omega)
   have ca := (HI.out.b.cell (p := ⟨bL, oL + no, none⟩) hbL).trans (hcL no a ha)
   unfold strc at ca
   have hal := HLE.out a (List.mem_of_getElem? ha)
   have HN : Hid (∀ st', lineS (so, l) a = .ok st' → GAt ls (no + 1) st') := Lib.hid fun st' h => HA.out.next ha h
   have HB : Hid (∀ e, lineS (so, l) a = .error e → parseS t = .error (no + 1, e)) := Lib.hid fun e h => HPe.out _ (HA.out.bad ha h)
   have hw1 : IntKind.i64.wrap ((no : Int) + 1) = (no : Int) + 1 := IntWalk.i64_in _ ⟨by omega, by omega⟩
   obtain ⟨ow, how⟩ : ∃ ow, wrds a = ow := ⟨_, rfl⟩
   have HW := Lib.hid how
   clear ha hcL HA
   cases ow with
   | none =>
    have HE := Lib.hid (HB.out 224 (by unfold lineS; rw [how]))
    clear how
    go_wp2_with fail
    refine (rwords_as HW (by omega) _).mono ?_
    rintro e w3 ⟨rfl, hb3⟩
    have HI3 := Lib.hid (HI.out.on (hb3.trans ((one w3 (.cells (opC opp0 nl nl nl nl) 108)).mono hb3.size)))
    have f0 := HI3.out.r.open_
    have r0 : (w3.alloc (.cells (opC opp0 nl nl nl nl) 108)).cell? ⟨w.heap.size, 0, none⟩ = some (.int .i64 0) := HI3.out.r.cell rfl
    have r1 : (w3.alloc (.cells (opC opp0 nl nl nl nl) 108)).cell? ⟨w.heap.size, 1, none⟩ = some (.slice none 0 0) := HI3.out.r.cell rfl
    clear ca hb3 HW
    go_upto_region 14 with fail
    change Code.wp _ _ _ _ (w3.alloc (.cells (opC opp0 nl nl nl nl) 108))
    generalize w3.alloc (.cells (opC opp0 nl nl nl nl) 108) = w4 at HI3 f0 r0 r1 ⊢
    go_wp2
    refine close_rscr HI3.out.r ((no + 1 : Nat) : Int) 224 rfl rfl rfl fun W8 h8 hb8 ho8 hs8 => ⟨?_, hb8 _ _ (Nat.le_refl _) (HBB.out _ HI3.out.b)⟩
    rw [HE.out]
    exact rfl
   | some ws =>
    cases ws with
    | nil =>
     have HQ := Lib.hid (HN.out (so, l) (by unfold lineS; rw [how]))
     clear how
     go_wp2_with fail
     refine (rwords_as HW (by omega) _).mono ?_
     rintro e w3 ⟨⟨Ae, ke, rfl, -⟩, hb3⟩
     have hb4 := hb3.trans ((one w3 (.cells (opC opp0 nl nl nl nl) 108)).mono hb3.size)
     have HI3 := Lib.hid (HI.out.on hb4)
     clear ca hb3 HW hb4
     go_upto_region 14 with fail
     change Code.wp _ _ _ _ (w3.alloc (.cells (opC opp0 nl nl nl nl) 108))
     generalize w3.alloc (.cells (opC opp0 nl nl nl nl) 108) = w4 at HI3 ⊢
     go_wp2
     go_roundw
     case rel => exact ⟨(so, l), no + 1, k, vs, A, c, rfl, by go_num, by omega, HQ, HK, hk, HI3⟩
     case measure => simp [intOf]; omega
    | cons x xs =>
     have hwl := wds_len a [] (x :: xs) how
     have hww := wds_le a.length a [] (x :: xs) (by simp) how
     have hww2 : ∀ y ∈ x :: xs, y.length ≤ 2000000 := fun y hy => by have := hww y hy; omega
     clear hww
     obtain ⟨N, hN⟩ : ∃ N, (x :: xs).length = N := ⟨_, rfl⟩
     have hN1 : 1 ≤ N := by simp at hN; omega
     have hN2 : N ≤ 2000000 := by rw [hN] at hwl; omega
     have hN0 : ((N : Int) == 0) = false := by rw [beq_eq_false_iff_ne]; omega
     have HNN := Lib.hid hN
     have HHOW := Lib.hid how
     clear how hN hwl
     go_wp2_with fail
     refine (rwords_as HW (by omega) _).mono ?_
     rintro e w3 ⟨⟨Ae, ke, rfl, hown⟩, hb3⟩
     rw [HNN.out] at hown
     obtain ⟨hs2, hke, -⟩ := own_shows (l := x :: xs) hown (Nat.le_refl _)
     simp only [HNN.out]
     have hb34 := one w3 (.cells (opC opp0 nl nl nl nl) 108)
     have hb4 := hb3.trans (hb34.mono hb3.size)
     have hP4 : Blk w3.heap.size (opC opp0 nl nl nl nl) 108 (w3.alloc (.cells (opC opp0 nl nl nl nl) 108)) := blk_new w3 _ _
     have hz4 : (w3.alloc (.cells (opC opp0 nl nl nl nl) 108)).heap.size = w3.heap.size + 1 := World.size_alloc _ _
     have HI4 := Lib.hid (HI.out.on hb4)
     have HI2 := Lib.hid (HI.out.on hb3)
     have hs4 := (hs2.below hb34).more hb34.size
     clear ca hb3 HW hown hs2
     go_upto_region 14 with fail
     change Code.wp _ _ _ _ (w3.alloc (.cells (opC opp0 nl nl nl nl) 108))
     generalize w3.alloc (.cells (opC opp0 nl nl nl nl) 108) = w4 at HI4 hs4 hP4 hz4 hb34 hb4 ⊢
     have s0 : w4.cell? ⟨w1.heap.size, 0, none⟩ = some (.int .i64 (so.getD 0)) := HI4.out.s.cell rfl
     have s1 : w4.cell? ⟨w1.heap.size, 1, none⟩ = some (.slice A k c) := HI4.out.s.cell rfl
     cases so with
     | none =>
      cases hf : firstS (x :: xs) with
      | error z =>
       have HE := Lib.hid (HB.out z (by unfold lineS; rw [HHOW.out]; simp only [hf]))
       have hz : (z != 0) = true := by rw [bne_iff_ne]; exact first_err hf
       have HF : Hid (ofF (firstS (x :: xs)) = .tuple #[.int .i64 0, .int .i64 z]) := Lib.hid (by rw [hf]; rfl)
       clear hf hb34 hP4 hz4
       go_wp2_with fail
       refine (rfirst_as HNN HF _ _ _ hN2 hs4 hww2).mono ?_
       rintro e w5 ⟨rfl, hb5⟩
       have HI5 := Lib.hid (HI4.out.on hb5)
       have fS := HI5.out.s.open_
       have s50 : w5.cell? ⟨w1.heap.size, 0, none⟩ = some (.int .i64 0) := HI5.out.s.cell rfl
       have f0 := HI5.out.r.open_
       have r0 : w5.cell? ⟨w.heap.size, 0, none⟩ = some (.int .i64 0) := HI5.out.r.cell rfl
       have r1 : w5.cell? ⟨w.heap.size, 1, none⟩ = some (.slice none 0 0) := HI5.out.r.cell rfl
       have hne : w.heap.size ≠ w1.heap.size := Nat.ne_of_lt hRS
       clear s0 s1 hb5 hs4
       go_wp2
       refine close_rscr (show Blk w.heap.size _ _ (w5.setCell ⟨w1.heap.size, 0, none⟩ (.int .i64 0)) from (Below.heap_setCell _ ⟨w1.heap.size, 0, none⟩ _ _ hne).trans HI5.out.r) ((no + 1 : Nat) : Int) z rfl rfl rfl fun W8 h8 hb8 ho8 hs8 => ⟨?_, hb8 _ _ (Nat.le_refl _) (HBB.out _ (HI5.out.b.setCell (p := ⟨w1.heap.size, 0, none⟩) (Nat.le_refl _) _))⟩
       rw [HE.out]
       exact rfl
      | ok n =>
       have HQ := Lib.hid (HN.out (some n, l) (by unfold lineS; rw [HHOW.out]; simp only [hf]))
       have HF : Hid (ofF (firstS (x :: xs)) = .tuple #[.int .i64 n, .int .i64 0]) := Lib.hid (by rw [hf]; rfl)
       clear hf hb34 hP4 hz4
       go_wp2_with fail
       refine (rfirst_as HNN HF _ _ _ hN2 hs4 hww2).mono ?_
       rintro e w5 ⟨rfl, hb5⟩
       have HI5 := Lib.hid (HI4.out.on hb5)
       have fS := HI5.out.s.open_
       have s50 : w5.cell? ⟨w1.heap.size, 0, none⟩ = some (.int .i64 0) := HI5.out.s.cell rfl
       have hne : w.heap.size ≠ w1.heap.size := Nat.ne_of_lt hRS
       clear s0 s1 hb5 hs4
       go_wp2
       go_roundw
       case rel => exact ⟨(some n, l), no + 1, k, vs, A, c, rfl, by go_num, by omega, HQ, HK, hk, Lib.hid (HI5.out.set hne (Nat.le_refl _) rfl (HI5.out.o.set HI5.out.s _))⟩
       case measure => simp [intOf]; omega
     | some n0 =>
      by_cases hk2 : 2000 ≤ k
      ·have j1 : (2000 : Int) ≤ (k : Int) := by omega
       have HE := Lib.hid (HB.out 221 (by unfold lineS; rw [HHOW.out]; simp only; rw [if_pos (by have : l.length = k := HK.out; omega)]))
       have f0 := HI4.out.r.open_
       have r0 : w4.cell? ⟨w.heap.size, 0, none⟩ = some (.int .i64 0) := HI4.out.r.cell rfl
       have r1 : w4.cell? ⟨w.heap.size, 1, none⟩ = some (.slice none 0 0) := HI4.out.r.cell rfl
       clear hb34 hP4 hz4 hs4
       go_wp2
       refine close_rscr HI4.out.r ((no + 1 : Nat) : Int) 221 rfl rfl rfl fun W8 h8 hb8 ho8 hs8 => ⟨?_, hb8 _ _ (Nat.le_refl _) (HBB.out _ HI4.out.b)⟩
       rw [HE.out]
       exact rfl
      ·have j1 : ¬ (2000 : Int) ≤ (k : Int) := by omega
       obtain ⟨ro, hro⟩ : ∃ ro, stepS (x :: xs) = ro := ⟨_, rfl⟩
       have HRO := Lib.hid hro
       have hold : ∀ y ∈ vs, y.top ≤ w3.heap.size := fun y hy => by
        obtain ⟨i, hi⟩ := List.mem_iff_getElem?.1 hy
        obtain ⟨d, hd⟩ : ∃ d, l[i]? = some d := ⟨_, List.getElem?_eq_getElem (by have := HI2.out.o.len; rw [← this]; exact (List.getElem?_eq_some_iff.1 hi).1)⟩
        exact (HI2.out.o.own i d y hd hi).2.2
       have hPR : w1.heap.size ≤ w3.heap.size := HI2.out.b.size
       have hSP : w1.heap.size ≤ w3.heap.size := Nat.le_of_lt HI2.out.s.lt
       have HOLD := Lib.hid hold
       have hst4 := rstep_as hstep HNN HRO Ae ke w4 (hE.on (HBB.out _ HI4.out.b)) hN2 hke hs4 hww2
       clear hold hs4 hb4 s0
       obtain ⟨P, hPe⟩ : ∃ P, w3.heap.size = P := ⟨_, rfl⟩
       rw [hPe] at hP4 hb34 hz4 hPR hSP ⊢
       have HPE := Lib.hid hPe
       clear hPe
       cases ro with
       | error y =>
        have HE := Lib.hid (HB.out y (by unfold lineS; rw [HHOW.out]; simp only; rw [if_neg (by have : l.length = k := HK.out; omega), hro]))
        have hy : (y != 0) = true := by rw [bne_iff_ne]; exact stepS_err hro
        clear hro
        go_upto_region 13 with (go_at_call 53; refine hst4.mono ?_; rintro e w6 ⟨⟨o, dv, cv, fv, bv, ⟨Ad, nd, cd, rfl⟩, ⟨Ac, nc, cc, rfl⟩, ⟨Af, nf, cf, rfl⟩, ⟨Ab, nb, cb, rfl⟩, rfl⟩, hb3⟩; have hP3 := hP4.on hb3; obtain ⟨e0, e1, e2, e3, e4, e5, e6, e7, e8, e9, e10, e11, e12, e13, fr⟩ := opC_cells hP3; simp only [opp0, nl] at e0 e1 e2 e3 e4 e5 e6 e7 e8 e9 e10 e11 e12 e13; clear hst4; simp only [opC])
        clear e0 e1 e2 e3 e4 e5 e6 e7 e8 e9 e10 e11 e12 e13 fr
        have hb5 : Below P w3 (put14 w6 P (.int .i64 o.kind) (.int .i64 o.a) (.int .i64 o.k) (.int .i64 o.t) (.int .i64 o.x) (.int .i64 o.link) (.slice Ad nd cd) (.int .i64 o.sec) (.int .i64 o.nano) (.int .i64 o.blk) (.int .i64 o.wid) (.slice Ac nc cc) (.slice Af nf cf) (.slice Ab nb cb)) := put14_below (hb34.trans (hb3.mono (by omega))) (Nat.le_refl _) _ _ _ _ _ _ _ _ _ _ _ _ _ _
        have hP5 := put14_blk hP3 rfl (.int .i64 o.kind) (.int .i64 o.a) (.int .i64 o.k) (.int .i64 o.t) (.int .i64 o.x) (.int .i64 o.link) (.slice Ad nd cd) (.int .i64 o.sec) (.int .i64 o.nano) (.int .i64 o.blk) (.int .i64 o.wid) (.slice Ac nc cc) (.slice Af nf cf) (.slice Ab nb cb)
        change Code.wp _ _ _ _ (put14 w6 P (.int .i64 o.kind) (.int .i64 o.a) (.int .i64 o.k) (.int .i64 o.t) (.int .i64 o.x) (.int .i64 o.link) (.slice Ad nd cd) (.int .i64 o.sec) (.int .i64 o.nano) (.int .i64 o.blk) (.int .i64 o.wid) (.slice Ac nc cc) (.slice Af nf cf) (.slice Ab nb cb))
        generalize (put14 w6 P (.int .i64 o.kind) (.int .i64 o.a) (.int .i64 o.k) (.int .i64 o.t) (.int .i64 o.x) (.int .i64 o.link) (.slice Ad nd cd) (.int .i64 o.sec) (.int .i64 o.nano) (.int .i64 o.blk) (.int .i64 o.wid) (.slice Ac nc cc) (.slice Af nf cf) (.slice Ab nb cb)) = W5 at *
        have HI5 : Hid (PIn w1 w.heap.size (w1.heap.size) n0 (.slice A k c) l vs W5) := Lib.hid (HI2.out.on (by rw [HPE.out]; exact hb5))
        have s1 : W5.cell? ⟨w1.heap.size, 1, none⟩ = some (.slice A k c) := HI5.out.s.cell rfl
        obtain ⟨e0, e1, e2, e3, e4, e5, e6, e7, e8, e9, e10, e11, e12, e13, -⟩ := opC_cells (o := o) (dv := .slice Ad nd cd) (cv := .slice Ac nc cc) (fv := .slice Af nf cf) (bv := .slice Ab nb cb) hP5
        have hrow := HI5.out.o.row
        rw [HK.out] at hrow
        have hzw := HI5.out.b.size
        clear hb5 hP5 hP3 hP4 hb34 hb3
        go_wp2_with (at_builtin; go_loud (refine wpList_append_own _ rfl _ _ 58 rfl w1.heap.size 108 i0 (.agg (opC opp0 nl nl nl nl)) 14 176 Tryz.underlying58 hi0 hz0 hz1 hz2' rfl (by decide) _ _ _ rfl (hrow.alloc _) ⟨W5.heap.size, 0, none⟩ 1 1 [_, _, _, _, _, _, _, _, _, _, _, _, _, _] rfl rfl (cells_at rfl _ _) ?c2 ?c3 ?c4 ?c5 ?_))
        case c2 => exact ⟨rfl, rfl, rfl, rfl, rfl, rfl, rfl, rfl, rfl, rfl, rfl, rfl, rfl, rfl⟩
        case c3 => first | omega | (unfold maxLen; omega)
        case c4 => omega
        case c5 => first | omega | (simp; omega)
        intro v' w5 hown' hgrow _
        obtain ⟨hR6, hS6, hb6⟩ := HI5.out.app hgrow
        clear e0 e1 e2 e3 e4 e5 e6 e7 e8 e9 e10 e11 e12 e13 s1 hrow
        have f0 := hR6.open_
        have r0 : w5.cell? ⟨w.heap.size, 0, none⟩ = some (.int .i64 0) := hR6.cell rfl
        have r1 : w5.cell? ⟨w.heap.size, 1, none⟩ = some (.slice none 0 0) := hR6.cell rfl
        have fS := hS6.open_
        have s1 : w5.cell? ⟨w1.heap.size, 1, none⟩ = some (.slice A k c) := hS6.cell rfl
        obtain ⟨A', c', rfl, -⟩ := own_sl hown'
        have HR6 := Lib.hid hR6
        have HB6 := Lib.hid hb6
        clear hR6 hS6 hb6 hown' hgrow
        go_wp2
        have hne : w.heap.size ≠ w1.heap.size := Nat.ne_of_lt hRS
        refine close_rscr (show Blk w.heap.size _ _ (w5.setCell ⟨w1.heap.size, 1, none⟩ (.slice A' (k + 1) c')) from (Below.heap_setCell _ _ _ _ hne).trans HR6.out) ((no + 1 : Nat) : Int) y rfl rfl rfl fun W8 h8 hb8 ho8 hs8 => ⟨?_, hb8 _ _ (Nat.le_refl _) (HBB.out _ (HB6.out.setCell (p := ⟨w1.heap.size, 1, none⟩) (Nat.le_refl _) _))⟩
        rw [HE.out]
        exact rfl
       | ok o2 =>
        have HQ := Lib.hid (HN.out (some n0, l ++ [o2]) (by unfold lineS; rw [HHOW.out]; simp only; rw [if_neg (by have : l.length = k := HK.out; omega), hro]))
        clear hro
        go_upto_region 13 with (go_at_call 53; refine hst4.mono ?_; rintro e w6 ⟨⟨o, dv, cv, fv, bv, ⟨Ad, nd, cd, rfl⟩, ⟨Ac, nc, cc, rfl⟩, ⟨Af, nf, cf, rfl⟩, ⟨Ab, nb, cb, rfl⟩, ho2, rfl, kvs, hO⟩, hb3⟩; have hP3 := hP4.on hb3; obtain ⟨e0, e1, e2, e3, e4, e5, e6, e7, e8, e9, e10, e11, e12, e13, fr⟩ := opC_cells hP3; simp only [opp0, nl] at e0 e1 e2 e3 e4 e5 e6 e7 e8 e9 e10 e11 e12 e13; clear hst4; simp only [opC])
        clear e0 e1 e2 e3 e4 e5 e6 e7 e8 e9 e10 e11 e12 e13 fr
        have hb5 : Below P w3 (put14 w6 P (.int .i64 o.kind) (.int .i64 o.a) (.int .i64 o.k) (.int .i64 o.t) (.int .i64 o.x) (.int .i64 o.link) (.slice Ad nd cd) (.int .i64 o.sec) (.int .i64 o.nano) (.int .i64 o.blk) (.int .i64 o.wid) (.slice Ac nc cc) (.slice Af nf cf) (.slice Ab nb cb)) := put14_below (hb34.trans (hb3.mono (by omega))) (Nat.le_refl _) _ _ _ _ _ _ _ _ _ _ _ _ _ _
        have hP5 := put14_blk hP3 rfl (.int .i64 o.kind) (.int .i64 o.a) (.int .i64 o.k) (.int .i64 o.t) (.int .i64 o.x) (.int .i64 o.link) (.slice Ad nd cd) (.int .i64 o.sec) (.int .i64 o.nano) (.int .i64 o.blk) (.int .i64 o.wid) (.slice Ac nc cc) (.slice Af nf cf) (.slice Ab nb cb)
        have hO5 := hO.put hP3 (.int .i64 o.kind) (.int .i64 o.a) (.int .i64 o.k) (.int .i64 o.t) (.int .i64 o.x) (.int .i64 o.link) (.slice Ad nd cd) (.int .i64 o.sec) (.int .i64 o.nano) (.int .i64 o.blk) (.int .i64 o.wid) (.slice Ac nc cc) (.slice Af nf cf) (.slice Ab nb cb)
        rw [hz4] at hO5
        rw [ho2] at HQ
        clear hO ho2
        change Code.wp _ _ _ _ (put14 w6 P (.int .i64 o.kind) (.int .i64 o.a) (.int .i64 o.k) (.int .i64 o.t) (.int .i64 o.x) (.int .i64 o.link) (.slice Ad nd cd) (.int .i64 o.sec) (.int .i64 o.nano) (.int .i64 o.blk) (.int .i64 o.wid) (.slice Ac nc cc) (.slice Af nf cf) (.slice Ab nb cb))
        generalize (put14 w6 P (.int .i64 o.kind) (.int .i64 o.a) (.int .i64 o.k) (.int .i64 o.t) (.int .i64 o.x) (.int .i64 o.link) (.slice Ad nd cd) (.int .i64 o.sec) (.int .i64 o.nano) (.int .i64 o.blk) (.int .i64 o.wid) (.slice Ac nc cc) (.slice Af nf cf) (.slice Ab nb cb)) = W5 at *
        have HI5 : Hid (PIn w1 w.heap.size (w1.heap.size) n0 (.slice A k c) l vs W5) := Lib.hid (HI2.out.on (by rw [HPE.out]; exact hb5))
        have s1 : W5.cell? ⟨w1.heap.size, 1, none⟩ = some (.slice A k c) := HI5.out.s.cell rfl
        obtain ⟨e0, e1, e2, e3, e4, e5, e6, e7, e8, e9, e10, e11, e12, e13, -⟩ := opC_cells (o := o) (dv := .slice Ad nd cd) (cv := .slice Ac nc cc) (fv := .slice Af nf cf) (bv := .slice Ab nb cb) hP5
        have hrow := HI5.out.o.row
        rw [HK.out] at hrow
        have hzw := HI5.out.b.size
        clear hb5 hP5 hP3 hP4 hb34 hb3
        go_wp2_with (at_builtin; go_loud (refine wpList_append_own _ rfl _ _ 58 rfl w1.heap.size 108 i0 (.agg (opC opp0 nl nl nl nl)) 14 176 Tryz.underlying58 hi0 hz0 hz1 hz2' rfl (by decide) _ _ _ rfl (hrow.alloc _) ⟨W5.heap.size, 0, none⟩ 1 1 [_, _, _, _, _, _, _, _, _, _, _, _, _, _] rfl rfl (cells_at rfl _ _) ?c2 ?c3 ?c4 ?c5 ?_))
        case c2 => exact ⟨rfl, rfl, rfl, rfl, rfl, rfl, rfl, rfl, rfl, rfl, rfl, rfl, rfl, rfl⟩
        case c3 => first | omega | (unfold maxLen; omega)
        case c4 => omega
        case c5 => first | omega | (simp; omega)
        intro v' w5 hown' hgrow _
        obtain ⟨hR6, hS6, hb6⟩ := HI5.out.app hgrow
        clear e0 e1 e2 e3 e4 e5 e6 e7 e8 e9 e10 e11 e12 e13 s1 hrow
        have f0 := hR6.open_
        have r0 : w5.cell? ⟨w.heap.size, 0, none⟩ = some (.int .i64 0) := hR6.cell rfl
        have r1 : w5.cell? ⟨w.heap.size, 1, none⟩ = some (.slice none 0 0) := hR6.cell rfl
        have fS := hS6.open_
        have s1 : w5.cell? ⟨w1.heap.size, 1, none⟩ = some (.slice A k c) := hS6.cell rfl
        have HO6 := HI5.out.o.add hO5 (Nat.le_succ_of_le hPR) (fun y hy => by have := HOLD.out y hy; rw [HPE.out] at this; omega) _ (by rw [show l.length = k from HK.out]; exact hown') hgrow
        obtain ⟨A', c', rfl, -⟩ := own_sl hown'
        have HI6 : Hid (PIn w1 w.heap.size (w1.heap.size) n0 (.slice A' (k + 1) c') (l ++ [o]) _ (w5.setCell ⟨w1.heap.size, 1, none⟩ (.slice A' (k + 1) c'))) := Lib.hid ⟨(Below.heap_setCell _ ⟨w1.heap.size, 1, none⟩ _ _ (Nat.ne_of_lt hRS)).trans hR6, hS6.set 1 _, HO6.set hS6 _, hb6.setCell (p := ⟨w1.heap.size, 1, none⟩) (Nat.le_refl _) _⟩
        clear HO6 hO5
        clear hR6 hS6 hb6 hown' hgrow
        go_wp2
        go_roundw
        case rel => exact ⟨(some n0, l ++ [o]), no + 1, k + 1, _, A', c', rfl, by go_num, by omega, HQ, Lib.hid (by have : l.length = k := HK.out; simp; omega), by omega, HI6⟩
        case measure => simp [intOf]; omega
  ·obtain rfl : no = NL := by omega
   have j0 : ¬ (no : Int) < (no : Int) := by omega
   have HD := Lib.hid (GAt.done (by rw [HNL.out]; exact HA.out))
   obtain ⟨hR, hS, hO, hb⟩ := HI.out
   have f0 := hR.open_
   have r0 : wr.cell? ⟨w.heap.size, 0, none⟩ = some (.int .i64 0) := hR.cell rfl
   have r1 : wr.cell? ⟨w.heap.size, 1, none⟩ = some (.slice none 0 0) := hR.cell rfl
   have c0 : wr.cell? ⟨w1.heap.size, 0, none⟩ = some (.int .i64 (so.getD 0)) := hS.cell rfl
   have c1 : wr.cell? ⟨w1.heap.size, 1, none⟩ = some (.slice A k c) := hS.cell rfl
   cases so with
   | none =>
    clear hS hO hb hR
    go_wp2
    obtain ⟨hR, hS, hO, hb⟩ := HI.out
    refine close_rscr hR 0 227 rfl rfl rfl fun W8 h8 hb8 ho8 hs8 => ⟨?_, hb8 _ _ (Nat.le_refl _) (HBB.out _ hb)⟩
    rw [HPn.out _ HD.out]
    exact rfl
   | some n =>
    clear hS hO hb hR
    go_wp2
    obtain ⟨hR, hS, hO, hb⟩ := HI.out
    refine close_rscr hR 0 0 rfl rfl rfl fun W8 h8 hb8 ho8 hs8 => ⟨?_, hb8 _ _ (Nat.le_refl _) (HBB.out _ hb)⟩
    rw [HPs.out _ _ HD.out]
    have hk2 : l.length = k := HK.out
    subst hk2
    refine ⟨A, c, vs, rfl, (hO.lowB hSw0).mv hs8 fun g cc e he hc => ho8 g fun e2 => ?_⟩
    subst e2
    unfold Blk at hR
    rw [hR] at hc
    injection hc with hc
    injection hc with _ hc
    subst hc
    rcases he with (he | he | he | he) | he <;> exact absurd he (by decide)
end Go.Proofs.YtpkmekdpmkfcdaaGreatDoor.Sr

namespace Go.Proofs.YtpkmekdpmkfcdaaGreatDoor.Sr
open Go.RowKit Go.Proofs.YtpkmekdpmkfcdaaGreatDoor.Wd Go.Proofs.YtpkmekdpmkfcdaaGreatDoor.Px Go.Proofs.YtpkmekdpmkfcdaaGreatDoor.By Go.Proofs.YtpkmekdpmkfcdaaGreatDoor.En Go.Proofs.YtpkmekdpmkfcdaaGreatDoor.Pl Go.Proofs.YtpkmekdpmkfcdaaGreatDoor.Sc
open Go.Proofs.YtpkmekdpmkfcdaaGreatDoor.Pf (Cut strc one)

theorem rstep_all : RStep := fun a ws A c w hE hl hc hs hw => rstep_a a ws A c w hE hl hc hs hw
end Go.Proofs.YtpkmekdpmkfcdaaGreatDoor.Sr

namespace Go.Proofs.YtpkmekdpmkfcdaaGreatDoor.Sr
set_option linter.unusedVariables false
set_option linter.unusedSimpArgs false
open Go.RowKit Go.Proofs.YtpkmekdpmkfcdaaGreatDoor.Wd Go.Proofs.YtpkmekdpmkfcdaaGreatDoor.Px Go.Proofs.YtpkmekdpmkfcdaaGreatDoor.By Go.Proofs.YtpkmekdpmkfcdaaGreatDoor.En Go.Proofs.YtpkmekdpmkfcdaaGreatDoor.Pl Go.Proofs.YtpkmekdpmkfcdaaGreatDoor.Pf Go.Proofs.YtpkmekdpmkfcdaaGreatDoor.Sc

set_option maxRecDepth 20000 in
theorem rparse_many (t : ByteArray) (ht : 1048576 < t.size) (w : World) :
  Calls Tryz.prog 23 #[.string t] w fun e w' => ParseR (.error (0, 221)) w e w' ∧ Below w.heap.size w w' := by
 have i1 : (1048576 : Int) < (t.size : Int) := by omega
 go_enter Tryz.func23, Tryz.ntmps23
 go_wp2
 exact bodyPost_ret (v := .tuple #[.agg #[.int .i64 0, .slice none 0 0], .int .i64 0, .int .i64 221]) (by simp [results, Tryz.results23, go_sem]) rfl ⟨rfl, (Below.refl _ w).alloc (Nat.le_refl _) _⟩
theorem rscr_any (t : List UInt8) (w : World) (hE : Env w) :
  Calls Tryz.prog 23 #[.string ⟨t.toArray⟩] w fun e w' => ParseR (parseS t) w e w' ∧ Below w.heap.size w w' := by
 by_cases h : t.length ≤ 1048576
 ·exact rparse_in rstep_all t h w hE
 ·have hv : parseS t = .error (0, 221) := by unfold parseS; rw [if_pos (by omega)]
  rw [hv]
  exact rparse_many ⟨t.toArray⟩ (by show 1048576 < t.length; omega) w
/-- what both answer, in one form -/
def scN : Except (Nat × Int) (Int × List Opp) → Int
 | .ok (n, _) => n
 | .error _ => 0
def scO : Except (Nat × Int) (Int × List Opp) → List Opp
 | .ok (_, l) => l
 | .error _ => []
def scL : Except (Nat × Int) (Int × List Opp) → Int
 | .ok _ => 0
 | .error (n, _) => n
def scE : Except (Nat × Int) (Int × List Opp) → Int
 | .ok _ => 0
 | .error (_, x) => x
theorem scO_lim (t : List UInt8) : (∀ o ∈ scO (parseS t), LimO o) ∧ (scO (parseS t)).length ≤ 2000 := by
 cases h : parseS t with
 | error x => exact ⟨fun o ho => by simp [scO] at ho, by simp [scO]⟩
 | ok p =>
  obtain ⟨n, l⟩ := p
  exact parse_lim h
theorem ParseR.uni {r : Except (Nat × Int) (Int × List Opp)} {w w' : World} {e : Ending} (h : ParseR r w e w') {n no x : Int} {l : List Opp} {N : Nat} (h1 : scN r = n) (h2 : scO r = l) (h3 : scL r = no) (h4 : scE r = x) (h5 : l.length = N) :
  ∃ A c vs, e = .returned (.tuple #[.agg #[.int .i64 n, .slice A N c], .int .i64 no, .int .i64 x]) ∧ ORow w.heap.size (.slice A N c) l vs w' := by
 subst h1 h2 h3 h4 h5
 cases r with
 | error p => exact ⟨none, 0, [], h, ORow.nil _ _⟩
 | ok p =>
  obtain ⟨n, l⟩ := p
  exact h
set_option maxRecDepth 20000 in
set_option maxHeartbeats 4000000 in
theorem scriptParses_law (t : List UInt8) (w : World) (hE : Env w) (hT : Tabs w) :
  Calls Tryz.prog 5 #[.string ⟨t.toArray⟩] w fun e w' => e = .returned (.bool true) ∧ Below w.heap.size w w' := by
 have hlim := scO_lim t
 obtain ⟨n, hn⟩ : ∃ n, scN (parseS t) = n := ⟨_, rfl⟩
 obtain ⟨l, hl⟩ : ∃ l, scO (parseS t) = l := ⟨_, rfl⟩
 obtain ⟨no, hno⟩ : ∃ x, scL (parseS t) = x := ⟨_, rfl⟩
 obtain ⟨x, hx⟩ : ∃ x, scE (parseS t) = x := ⟨_, rfl⟩
 obtain ⟨N, hN⟩ : ∃ N, l.length = N := ⟨_, rfl⟩
 rw [hl, hN] at hlim
 have hN2 : N ≤ 2000 := hlim.2
 have HLIM := Lib.hid hlim.1
 have HNL := Lib.hid hN
 have HP : Hid (∀ (w w' : World) e, ParseR (parseS t) w e w' → ∃ A c vs, e = .returned (.tuple #[.agg #[.int .i64 n, .slice A N c], .int .i64 no, .int .i64 x]) ∧ ORow w.heap.size (.slice A N c) l vs w') := Lib.hid fun w w' e h => h.uni hn hl hno hx hN
 clear hlim hn hl hno hx hN
 go_enter Tryz.func5, Tryz.ntmps5
 go_wp2_with fail
 refine (parse_any t w hE hT).mono ?_
 rintro e w1 ⟨hres, hb1⟩
 obtain ⟨A, c, vs, rfl, hO1⟩ := HP.out _ _ _ hres
 clear hres
 have hP2 : Blk w1.heap.size #[.int .i64 n, .slice A N c] 60 (w1.alloc (.cells #[.int .i64 n, .slice A N c] 60)) := blk_new w1 _ _
 have hb12 := one w1 (.cells #[.int .i64 n, .slice A N c] 60)
 go_upto_region 2 with fail
 change Code.wp _ _ _ _ (w1.alloc (.cells #[.int .i64 n, .slice A N c] 60))
 generalize (w1.alloc (.cells #[.int .i64 n, .slice A N c] 60)) = w2 at hP2 hb12 ⊢
 have hb2 := hb1.trans (hb12.mono hb1.size)
 have hO2 := hO1.on hb12
 obtain ⟨P, hP⟩ : ∃ P, w1.heap.size = P := ⟨_, rfl⟩
 rw [hP] at hP2 ⊢
 clear hP hb12 hO1 hb1
 go_wp2_with fail
 refine (rscr_any t w2 (hE.on hb2)).mono ?_
 rintro e w3 ⟨hres, hb3⟩
 obtain ⟨A', c', vs', rfl, hO3⟩ := HP.out _ _ _ hres
 clear hres
 have hP4 : Blk w3.heap.size #[.int .i64 n, .slice A' N c'] 60 (w3.alloc (.cells #[.int .i64 n, .slice A' N c'] 60)) := blk_new w3 _ _
 have hb34 := one w3 (.cells #[.int .i64 n, .slice A' N c'] 60)
 go_upto_region 3 with fail
 change Code.wp _ _ _ _ (w3.alloc (.cells #[.int .i64 n, .slice A' N c'] 60))
 generalize (w3.alloc (.cells #[.int .i64 n, .slice A' N c'] 60)) = w4 at hP4 hb34 ⊢
 have hb23 := hb3.trans (hb34.mono hb3.size)
 have hb4 := hb2.trans (hb23.mono hb2.size)
 have hO24 := hO2.on hb23
 have hO4 := hO3.on hb34
 have hP24 := hP2.on hb23
 obtain ⟨Q, hQ⟩ : ∃ Q, w3.heap.size = Q := ⟨_, rfl⟩
 rw [hQ] at hP4 ⊢
 clear hQ hb34 hO3 hb3 hb23 hO2 hP2 hb2
 have hcall := scr_same n HNL vs vs' A A' c c' w4 (by omega) hO24.shows.1 hO4.shows.1 HLIM.out
 have a0 : w4.cell? ⟨P, 0, none⟩ = some (.int .i64 n) := hP24.cell rfl
 have a1 : w4.cell? ⟨P, 1, none⟩ = some (.slice A N c) := hP24.cell rfl
 have b0 : w4.cell? ⟨Q, 0, none⟩ = some (.int .i64 n) := hP4.cell rfl
 have b1 : w4.cell? ⟨Q, 1, none⟩ = some (.slice A' N c') := hP4.cell rfl
 go_wp2_with fail
 refine hcall.mono ?_
 rintro e w5 ⟨rfl, hb5⟩
 have hb6 := hb4.trans (hb5.mono hb4.size)
 have hF := fst_any w5 (hE.on hb6) (hT.on hb6)
 clear a0 a1 b0 b1 hcall hb5 hP24 hP4 hO24 hO4
 go_wp2_with (first
  | (go_at_call 14; refine (n22_any _ _).mono ?_; rintro e w10 ⟨rfl, hw⟩; rw [hw]; clear hw)
  | (go_at_call 10; refine hF.mono ?_; rintro e w6 ⟨rfl, hb7⟩))
 go_ret
 exact ⟨rfl, hb6.trans (hb7.mono hb6.size)⟩
end Go.Proofs.YtpkmekdpmkfcdaaGreatDoor.Sr
