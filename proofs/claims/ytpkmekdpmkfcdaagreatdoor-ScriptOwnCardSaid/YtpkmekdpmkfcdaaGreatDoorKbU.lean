/- Contracts: all kept lists are as they were. Contract: a book of all kinds is finished: all is as it was, and each list shows its own marks, twice, and grown. -/
import Derived.Test.YtpkmekdpmkfcdaaGreatDoorKbK
import Derived.Test.YtpkmekdpmkfcdaaGreatDoorAfter
import Derived.LoopN
import Derived.Test.YtpkmekdpmkfcdaaGreatDoorKbX
namespace Go.Proofs.YtpkmekdpmkfcdaaGreatDoor.Kb
set_option linter.unusedVariables false
set_option linter.unusedSimpArgs false
open Go.RowKit Go.Proofs.YtpkmekdpmkfcdaaGreatDoor.Wd Go.Proofs.YtpkmekdpmkfcdaaGreatDoor.Px Go.Proofs.YtpkmekdpmkfcdaaGreatDoor.By Go.Proofs.YtpkmekdpmkfcdaaGreatDoor.Pf Go.Proofs.YtpkmekdpmkfcdaaGreatDoor.Sc
open Go.Proofs.YtpkmekdpmkfcdaaGreatDoor.Sr (own_same own_kind own_low CRow ORow OpO Opv Und fltC Lim LimO chC opC nl put14)
set_option maxRecDepth 20000 in
set_option maxHeartbeats 4000000 in
theorem was_a (B K : Nat) (s : St) (w : World) (h : BkA B K s w) (hbig : Big s 1000000000000) :
  Calls Tryz.prog 84 #[.pointer (some ⟨K,0,none⟩)] w fun e w' => e = .returned (.bool true) ∧ Below w.heap.size w w' := by
 have HH := Lib.hid h
 obtain ⟨a0B,a1B,hpB⟩ := h.hb
 obtain ⟨nB,hnB⟩ : ∃ n,s.b.length = n := ⟨_,rfl⟩
 have o0B : w.ownsRow B kB.r 1 a0B nB (s.b.map (·.v)) := by have h9 := hpB.o0;rwa [List.length_map,hnB] at h9
 have o1B : w.ownsRow B kB.r 1 a1B nB (s.b.map (·.u)) := by have h9 := hpB.o1;rwa [List.length_map,hnB] at h9
 obtain ⟨A0B,k0B,rfl,-⟩ := Sr.own_sl o0B
 obtain ⟨A1B,k1B,rfl,-⟩ := Sr.own_sl o1B
 have d2B : w.cell? ⟨K,2,none⟩ = some (.slice A0B nB k0B) := hpB.c0
 have d3B : w.cell? ⟨K,3,none⟩ = some (.slice A1B nB k1B) := hpB.c1
 have hn9B : nB ≤ 1000000000000 := by rw [← hnB];exact hbig.b
 have HNB := Lib.hid hnB
 have HO0B := Lib.hid o0B
 have HO1B := Lib.hid o1B
 clear hnB o0B o1B hpB
 obtain ⟨a0L,a1L,hpL⟩ := h.hl
 obtain ⟨nL,hnL⟩ : ∃ n,s.l.length = n := ⟨_,rfl⟩
 have o0L : w.ownsRow B kL.r 1 a0L nL (s.l.map (·.v)) := by have h9 := hpL.o0;rwa [List.length_map,hnL] at h9
 have o1L : w.ownsRow B kL.r 1 a1L nL (s.l.map (·.u)) := by have h9 := hpL.o1;rwa [List.length_map,hnL] at h9
 obtain ⟨A0L,k0L,rfl,-⟩ := Sr.own_sl o0L
 obtain ⟨A1L,k1L,rfl,-⟩ := Sr.own_sl o1L
 have d2L : w.cell? ⟨K,5,none⟩ = some (.slice A0L nL k0L) := hpL.c0
 have d3L : w.cell? ⟨K,6,none⟩ = some (.slice A1L nL k1L) := hpL.c1
 have hn9L : nL ≤ 1000000000000 := by rw [← hnL];exact hbig.l
 have HNL := Lib.hid hnL
 have HO0L := Lib.hid o0L
 have HO1L := Lib.hid o1L
 clear hnL o0L o1L hpL
 clear h
 go_enter Tryz.func84,Tryz.ntmps84
 go_wp2
 go_loopw [3] (fun i wr => ∃ k : Nat,k ≤ nB ∧ i = .int .i64 (k : Int) ∧ Below w.heap.size w wr) (fun i _ => nB - (intOf i).toNat)
 case atStart => exact ⟨0,Nat.zero_le _,rfl,Below.refl _ _⟩
 case round =>
  obtain ⟨k,hk,rfl,hbk⟩ := hrel
  have c2 := keepc hbk d2B
  have c3 := keepc hbk d3B
  by_cases hlt : k < nB
  ·have i1 : (k : Int) < (nB : Int) := by omega
   obtain ⟨⟨iv,iu,ix⟩,hit⟩ : ∃ l,s.b[k]? = some l := ⟨_,List.getElem?_eq_getElem (by rw [HNB.out];exact hlt)⟩
   obtain ⟨g0,q0,e0,-,-⟩ := HO0B.out.form (by omega)
   obtain ⟨g1,q1,e1,-,-⟩ := HO1B.out.form (by omega)
   injection e0 with e0 _ e0'
   injection e1 with e1 _ e1'
   subst e0 e0' e1 e1'
   have cx0 := keepc hbk ((HO0B.out.cellAt k (by omega)).trans (by rw [List.getElem?_map,hit];rfl) : w.cell? ⟨g0,k,none⟩ = some iv)
   have cx1 := keepc hbk ((HO1B.out.cellAt k (by omega)).trans (by rw [List.getElem?_map,hit];rfl) : w.cell? ⟨g1,k,none⟩ = some iu)
   have hrv := (HH.out.on hbk).rb _ (List.mem_of_getElem? hit)
   simp only at hrv
   obtain ⟨Ax,kx,rfl,-⟩ := Sr.own_sl hrv.1.1
   obtain ⟨Ay,ky,rfl,-⟩ := Sr.own_sl hrv.2.1
   have sx := Shows.of_own (base := B) (e := 5) hrv.1.1
   have sy := Shows.of_own (base := B) (e := 5) hrv.2.1
   have hm9 := hrv.1.2
   obtain ⟨m,hm⟩ : ∃ m,ix.length = m := ⟨_,rfl⟩
   rw [hm] at cx0 cx1 hm9
   have HM := Lib.hid hm
   clear hit hm hrv
   have f2 := after_cell c2
   have f3 := after_cell c3
   have f4 := after_cell cx0
   have f5 := after_cell cx1
   go_upto_region 4 with fail
   refine wp_region_after (by kernel_rfl) (by kernel_rfl) ?_
   repeat (go_big_quiet_step ((first
    | (go_at_call 62;exact after_of (Sr.bytes_same HM _ _ _ _ _ hm9 (sx.on (After.b _)) (sy.on (After.b _)))))))
   refine wpQuiet_nil ?_
   rintro _ ⟨x,rfl⟩
   have hx := x.b
   clear f2 f3 f4 f5 sx sy c3 cx0 cx1
   go_wp2
   go_roundw
   case rel => exact ⟨k + 1,by omega,by go_num,hbk.trans (hx.mono hbk.size)⟩
   case measure => simp [intOf];omega
  ·obtain rfl : k = nB := by omega
   have i1 : ¬ (k : Int) < (k : Int) := by omega
   clear c3
   go_wp2
   go_loopw [4] (fun i wr => ∃ k : Nat,k ≤ nL ∧ i = .int .i64 (k : Int) ∧ Below w.heap.size w wr) (fun i _ => nL - (intOf i).toNat)
   case atStart => exact ⟨0,Nat.zero_le _,rfl,hbk⟩
   case round =>
    obtain ⟨k,hk,rfl,hbk⟩ := hrel
    have c2 := keepc hbk d2L
    have c3 := keepc hbk d3L
    by_cases hlt : k < nL
    ·have i1 : (k : Int) < (nL : Int) := by omega
     obtain ⟨⟨iv,iu,ix⟩,hit⟩ : ∃ l,s.l[k]? = some l := ⟨_,List.getElem?_eq_getElem (by rw [HNL.out];exact hlt)⟩
     obtain ⟨g0,q0,e0,-,-⟩ := HO0L.out.form (by omega)
     obtain ⟨g1,q1,e1,-,-⟩ := HO1L.out.form (by omega)
     injection e0 with e0 _ e0'
     injection e1 with e1 _ e1'
     subst e0 e0' e1 e1'
     have cx0 := keepc hbk ((HO0L.out.cellAt k (by omega)).trans (by rw [List.getElem?_map,hit];rfl) : w.cell? ⟨g0,k,none⟩ = some iv)
     have cx1 := keepc hbk ((HO1L.out.cellAt k (by omega)).trans (by rw [List.getElem?_map,hit];rfl) : w.cell? ⟨g1,k,none⟩ = some iu)
     have hrv := (HH.out.on hbk).rl _ (List.mem_of_getElem? hit)
     simp only at hrv
     obtain ⟨Ax,kx,rfl,-⟩ := Sr.own_sl hrv.1.1
     obtain ⟨Ay,ky,rfl,-⟩ := Sr.own_sl hrv.2.1
     have sx := Shows.of_own (base := B) (e := 4) hrv.1.1
     have sy := Shows.of_own (base := B) (e := 4) hrv.2.1
     have hm9 := hrv.1.2
     obtain ⟨m,hm⟩ : ∃ m,ix.length = m := ⟨_,rfl⟩
     rw [hm] at cx0 cx1 hm9
     have HM := Lib.hid hm
     clear hit hm hrv
     have f2 := after_cell c2
     have f3 := after_cell c3
     have f4 := after_cell cx0
     have f5 := after_cell cx1
     go_upto_region 9 with fail
     refine wp_region_after (by kernel_rfl) (by kernel_rfl) ?_
     repeat (go_big_quiet_step ((first
      | (go_at_call 170;exact after_of (Sr.bools_same HM _ _ _ _ _ hm9 (sx.on (After.b _)) (sy.on (After.b _)))))))
     refine wpQuiet_nil ?_
     rintro _ ⟨x,rfl⟩
     have hx := x.b
     clear f2 f3 f4 f5 sx sy c3 cx0 cx1
     go_wp2
     go_roundw
     case rel => exact ⟨k + 1,by omega,by go_num,hbk.trans (hx.mono hbk.size)⟩
     case measure => simp [intOf];omega
    ·obtain rfl : k = nL := by omega
     have i1 : ¬ (k : Int) < (k : Int) := by omega
     clear c3
     have n_ints : wr.cell? ⟨K,8,none⟩ = some (.slice none 0 0) := (HH.out.on hbk).ba.nn 8 (by unfold Emp;omega)
     have n_texts : wr.cell? ⟨K,11,none⟩ = some (.slice none 0 0) := (HH.out.on hbk).ba.nn 11 (by unfold Emp;omega)
     have n_byteLists : wr.cell? ⟨K,14,none⟩ = some (.slice none 0 0) := (HH.out.on hbk).ba.nn 14 (by unfold Emp;omega)
     have n_openings : wr.cell? ⟨K,20,none⟩ = some (.slice none 0 0) := (HH.out.on hbk).ba.nn 20 (by unfold Emp;omega)
     go_wp2
     refine wp_loop_rounds 1 ?_
     rw [rounds_succ]
     go_wp2
     refine wp_loop_rounds 1 ?_
     rw [rounds_succ]
     go_wp2
     refine wp_loop_rounds 1 ?_
     rw [rounds_succ]
     go_wp2
     refine wp_loop_rounds 1 ?_
     rw [rounds_succ]
     go_wp2
     go_ret
     exact ⟨rfl,hbk⟩
set_option maxRecDepth 20000 in
set_option maxHeartbeats 4000000 in
theorem wasOf_a (B K : Nat) (s : St) (w : World) (h : BkA B K s w) (hbig : Big s 1000000000000) :
  Calls Tryz.prog 85 #[.pointer (some ⟨K,0,none⟩)] w fun e w' => e = .returned (.bool true) ∧ Below w.heap.size w w' := by
 have HH := Lib.hid h
 obtain ⟨a0C,a1C,hpC⟩ := h.hc
 obtain ⟨nC,hnC⟩ : ∃ n,s.c.length = n := ⟨_,rfl⟩
 have o0C : w.ownsRow B kC.r 1 a0C nC (s.c.map (·.v)) := by have h9 := hpC.o0;rwa [List.length_map,hnC] at h9
 have o1C : w.ownsRow B kC.r 1 a1C nC (s.c.map (·.u)) := by have h9 := hpC.o1;rwa [List.length_map,hnC] at h9
 obtain ⟨A0C,k0C,rfl,-⟩ := Sr.own_sl o0C
 obtain ⟨A1C,k1C,rfl,-⟩ := Sr.own_sl o1C
 have d2C : w.cell? ⟨K,38,none⟩ = some (.slice A0C nC k0C) := hpC.c0
 have d3C : w.cell? ⟨K,39,none⟩ = some (.slice A1C nC k1C) := hpC.c1
 have hn9C : nC ≤ 1000000000000 := by rw [← hnC];exact hbig.c
 have HNC := Lib.hid hnC
 have HO0C := Lib.hid o0C
 have HO1C := Lib.hid o1C
 clear hnC o0C o1C hpC
 clear h
 go_enter Tryz.func85,Tryz.ntmps85
 have n_prefixes : w.cell? ⟨K,17,none⟩ = some (.slice none 0 0) := (HH.out.on (Below.refl _ _)).ba.nn 17 (by unfold Emp;omega)
 have n_peers : w.cell? ⟨K,23,none⟩ = some (.slice none 0 0) := (HH.out.on (Below.refl _ _)).ba.nn 23 (by unfold Emp;omega)
 have n_lanes : w.cell? ⟨K,26,none⟩ = some (.slice none 0 0) := (HH.out.on (Below.refl _ _)).ba.nn 26 (by unfold Emp;omega)
 have n_rows : w.cell? ⟨K,29,none⟩ = some (.slice none 0 0) := (HH.out.on (Below.refl _ _)).ba.nn 29 (by unfold Emp;omega)
 have n_sets : w.cell? ⟨K,32,none⟩ = some (.slice none 0 0) := (HH.out.on (Below.refl _ _)).ba.nn 32 (by unfold Emp;omega)
 go_wp2
 refine wp_loop_rounds 1 ?_
 rw [rounds_succ]
 go_wp2
 refine wp_loop_rounds 1 ?_
 rw [rounds_succ]
 go_wp2
 refine wp_loop_rounds 1 ?_
 rw [rounds_succ]
 go_wp2
 refine wp_loop_rounds 1 ?_
 rw [rounds_succ]
 go_wp2
 refine wp_loop_rounds 1 ?_
 rw [rounds_succ]
 go_wp2
 go_loopw [8] (fun i wr => ∃ k : Nat,k ≤ nC ∧ i = .int .i64 (k : Int) ∧ Below w.heap.size w wr) (fun i _ => nC - (intOf i).toNat)
 case atStart => exact ⟨0,Nat.zero_le _,rfl,Below.refl _ _⟩
 case round =>
  obtain ⟨k,hk,rfl,hbk⟩ := hrel
  have c2 := keepc hbk d2C
  have c3 := keepc hbk d3C
  by_cases hlt : k < nC
  ·have i1 : (k : Int) < (nC : Int) := by omega
   obtain ⟨⟨iv,iu,ix⟩,hit⟩ : ∃ l,s.c[k]? = some l := ⟨_,List.getElem?_eq_getElem (by rw [HNC.out];exact hlt)⟩
   obtain ⟨g0,q0,e0,-,-⟩ := HO0C.out.form (by omega)
   obtain ⟨g1,q1,e1,-,-⟩ := HO1C.out.form (by omega)
   injection e0 with e0 _ e0'
   injection e1 with e1 _ e1'
   subst e0 e0' e1 e1'
   have cx0 := keepc hbk ((HO0C.out.cellAt k (by omega)).trans (by rw [List.getElem?_map,hit];rfl) : w.cell? ⟨g0,k,none⟩ = some iv)
   have cx1 := keepc hbk ((HO1C.out.cellAt k (by omega)).trans (by rw [List.getElem?_map,hit];rfl) : w.cell? ⟨g1,k,none⟩ = some iu)
   have hrv := (HH.out.on hbk).rc _ (List.mem_of_getElem? hit)
   simp only at hrv
   obtain ⟨⟨⟨kv1,r1⟩,hli,hm9⟩,⟨⟨kv2,r2⟩,-⟩⟩ := hrv
   obtain ⟨Ax,kx,rfl,-⟩ := Sr.own_sl r1.row
   obtain ⟨Ay,ky,rfl,-⟩ := Sr.own_sl r2.row
   have sx := r1.shows
   have sy := r2.shows
   obtain ⟨m,hm⟩ : ∃ m,ix.length = m := ⟨_,rfl⟩
   rw [hm] at cx0 cx1 hm9
   have HM := Lib.hid hm
   clear hit hm
   have f2 := after_cell c2
   have f3 := after_cell c3
   have f4 := after_cell cx0
   have f5 := after_cell cx1
   go_upto_region 29 with fail
   refine wp_region_after (by kernel_rfl) (by kernel_rfl) ?_
   repeat (go_big_quiet_step ((first
    | (go_at_call 13;exact after_of (Sr.changes_same HM _ _ _ _ _ _ _ hm9 (sx.on (After.b _)) (sy.on (After.b _)) hli)))))
   refine wpQuiet_nil ?_
   rintro _ ⟨x,rfl⟩
   have hx := x.b
   clear f2 f3 f4 f5 sx sy c3 cx0 cx1
   go_wp2
   go_roundw
   case rel => exact ⟨k + 1,by omega,by go_num,hbk.trans (hx.mono hbk.size)⟩
   case measure => simp [intOf];omega
  ·obtain rfl : k = nC := by omega
   have i1 : ¬ (k : Int) < (k : Int) := by omega
   clear c3
   go_wp2
   go_ret
   exact ⟨rfl,hbk⟩
set_option maxRecDepth 20000 in
set_option maxHeartbeats 4000000 in
theorem wasToo_a (B K : Nat) (s : St) (w : World) (h : BkA B K s w) (hbig : Big s 1000000000000) :
  Calls Tryz.prog 86 #[.pointer (some ⟨K,0,none⟩)] w fun e w' => e = .returned (.bool true) ∧ Below w.heap.size w w' := by
 have HH := Lib.hid h
 obtain ⟨a0F,a1F,hpF⟩ := h.hf
 obtain ⟨nF,hnF⟩ : ∃ n,s.f.length = n := ⟨_,rfl⟩
 have o0F : w.ownsRow B kF.r 1 a0F nF (s.f.map (·.v)) := by have h9 := hpF.o0;rwa [List.length_map,hnF] at h9
 have o1F : w.ownsRow B kF.r 1 a1F nF (s.f.map (·.u)) := by have h9 := hpF.o1;rwa [List.length_map,hnF] at h9
 obtain ⟨A0F,k0F,rfl,-⟩ := Sr.own_sl o0F
 obtain ⟨A1F,k1F,rfl,-⟩ := Sr.own_sl o1F
 have d2F : w.cell? ⟨K,41,none⟩ = some (.slice A0F nF k0F) := hpF.c0
 have d3F : w.cell? ⟨K,42,none⟩ = some (.slice A1F nF k1F) := hpF.c1
 have hn9F : nF ≤ 1000000000000 := by rw [← hnF];exact hbig.f
 have HNF := Lib.hid hnF
 have HO0F := Lib.hid o0F
 have HO1F := Lib.hid o1F
 clear hnF o0F o1F hpF
 obtain ⟨a0O,a1O,hpO⟩ := h.ho
 obtain ⟨nO,hnO⟩ : ∃ n,s.o.length = n := ⟨_,rfl⟩
 have o0O : w.ownsRow B kO.r 1 a0O nO (s.o.map (·.v)) := by have h9 := hpO.o0;rwa [List.length_map,hnO] at h9
 have o1O : w.ownsRow B kO.r 1 a1O nO (s.o.map (·.u)) := by have h9 := hpO.o1;rwa [List.length_map,hnO] at h9
 obtain ⟨A0O,k0O,rfl,-⟩ := Sr.own_sl o0O
 obtain ⟨A1O,k1O,rfl,-⟩ := Sr.own_sl o1O
 have d2O : w.cell? ⟨K,47,none⟩ = some (.slice A0O nO k0O) := hpO.c0
 have d3O : w.cell? ⟨K,48,none⟩ = some (.slice A1O nO k1O) := hpO.c1
 have hn9O : nO ≤ 1000000000000 := by rw [← hnO];exact hbig.o
 have HNO := Lib.hid hnO
 have HO0O := Lib.hid o0O
 have HO1O := Lib.hid o1O
 clear hnO o0O o1O hpO
 clear h
 go_enter Tryz.func86,Tryz.ntmps86
 have n_pendings : w.cell? ⟨K,35,none⟩ = some (.slice none 0 0) := (HH.out.on (Below.refl _ _)).ba.nn 35 (by unfold Emp;omega)
 go_wp2
 refine wp_loop_rounds 1 ?_
 rw [rounds_succ]
 go_wp2
 go_loopw [4] (fun i wr => ∃ k : Nat,k ≤ nF ∧ i = .int .i64 (k : Int) ∧ Below w.heap.size w wr) (fun i _ => nF - (intOf i).toNat)
 case atStart => exact ⟨0,Nat.zero_le _,rfl,Below.refl _ _⟩
 case round =>
  obtain ⟨k,hk,rfl,hbk⟩ := hrel
  have c2 := keepc hbk d2F
  have c3 := keepc hbk d3F
  by_cases hlt : k < nF
  ·have i1 : (k : Int) < (nF : Int) := by omega
   obtain ⟨⟨iv,iu,ix⟩,hit⟩ : ∃ l,s.f[k]? = some l := ⟨_,List.getElem?_eq_getElem (by rw [HNF.out];exact hlt)⟩
   obtain ⟨g0,q0,e0,-,-⟩ := HO0F.out.form (by omega)
   obtain ⟨g1,q1,e1,-,-⟩ := HO1F.out.form (by omega)
   injection e0 with e0 _ e0'
   injection e1 with e1 _ e1'
   subst e0 e0' e1 e1'
   have cx0 := keepc hbk ((HO0F.out.cellAt k (by omega)).trans (by rw [List.getElem?_map,hit];rfl) : w.cell? ⟨g0,k,none⟩ = some iv)
   have cx1 := keepc hbk ((HO1F.out.cellAt k (by omega)).trans (by rw [List.getElem?_map,hit];rfl) : w.cell? ⟨g1,k,none⟩ = some iu)
   have hrv := (HH.out.on hbk).rf _ (List.mem_of_getElem? hit)
   simp only at hrv
   obtain ⟨Ax,kx,rfl,-⟩ := Sr.own_sl hrv.1.1
   obtain ⟨Ay,ky,rfl,-⟩ := Sr.own_sl hrv.2.1
   have sx := Sr.own_faults hrv.1.1
   have sy := Sr.own_faults hrv.2.1
   have hm9 := hrv.1.2
   obtain ⟨m,hm⟩ : ∃ m,ix.length = m := ⟨_,rfl⟩
   rw [hm] at cx0 cx1 hm9
   have HM := Lib.hid hm
   clear hit hm hrv
   have f2 := after_cell c2
   have f3 := after_cell c3
   have f4 := after_cell cx0
   have f5 := after_cell cx1
   go_upto_region 9 with fail
   refine wp_region_after (by kernel_rfl) (by kernel_rfl) ?_
   repeat (go_big_quiet_step ((first
    | (go_at_call 169;exact after_of (Sr.faults_same HM _ _ _ _ _ hm9 (sx.on (After.b _)) (sy.on (After.b _)))))))
   refine wpQuiet_nil ?_
   rintro _ ⟨x,rfl⟩
   have hx := x.b
   clear f2 f3 f4 f5 sx sy c3 cx0 cx1
   go_wp2
   go_roundw
   case rel => exact ⟨k + 1,by omega,by go_num,hbk.trans (hx.mono hbk.size)⟩
   case measure => simp [intOf];omega
  ·obtain rfl : k = nF := by omega
   have i1 : ¬ (k : Int) < (k : Int) := by omega
   clear c3
   have n_flights : wr.cell? ⟨K,44,none⟩ = some (.slice none 0 0) := (HH.out.on hbk).ba.nn 44 (by unfold Emp;omega)
   go_wp2
   refine wp_loop_rounds 1 ?_
   rw [rounds_succ]
   go_wp2
   go_loopw [6] (fun i wr => ∃ k : Nat,k ≤ nO ∧ i = .int .i64 (k : Int) ∧ Below w.heap.size w wr) (fun i _ => nO - (intOf i).toNat)
   case atStart => exact ⟨0,Nat.zero_le _,rfl,hbk⟩
   case round =>
    obtain ⟨k,hk,rfl,hbk⟩ := hrel
    have c2 := keepc hbk d2O
    have c3 := keepc hbk d3O
    by_cases hlt : k < nO
    ·have i1 : (k : Int) < (nO : Int) := by omega
     obtain ⟨⟨iv,iu,ix⟩,hit⟩ : ∃ l,s.o[k]? = some l := ⟨_,List.getElem?_eq_getElem (by rw [HNO.out];exact hlt)⟩
     obtain ⟨g0,q0,e0,-,-⟩ := HO0O.out.form (by omega)
     obtain ⟨g1,q1,e1,-,-⟩ := HO1O.out.form (by omega)
     injection e0 with e0 _ e0'
     injection e1 with e1 _ e1'
     subst e0 e0' e1 e1'
     have cx0 := keepc hbk ((HO0O.out.cellAt k (by omega)).trans (by rw [List.getElem?_map,hit];rfl) : w.cell? ⟨g0,k,none⟩ = some iv)
     have cx1 := keepc hbk ((HO1O.out.cellAt k (by omega)).trans (by rw [List.getElem?_map,hit];rfl) : w.cell? ⟨g1,k,none⟩ = some iu)
     have hrv := (HH.out.on hbk).ro _ (List.mem_of_getElem? hit)
     simp only at hrv
     obtain ⟨⟨⟨kv1,r1⟩,hli,hm9⟩,⟨⟨kv2,r2⟩,-⟩⟩ := hrv
     obtain ⟨Ax,kx,rfl,-⟩ := Sr.own_sl r1.row
     obtain ⟨Ay,ky,rfl,-⟩ := Sr.own_sl r2.row
     have sx := r1.shows.1
     have sy := r2.shows.1
     obtain ⟨m,hm⟩ : ∃ m,ix.length = m := ⟨_,rfl⟩
     rw [hm] at cx0 cx1 hm9
     have HM := Lib.hid hm
     clear hit hm
     have f2 := after_cell c2
     have f3 := after_cell c3
     have f4 := after_cell cx0
     have f5 := after_cell cx1
     go_upto_region 19 with fail
     refine wp_region_after (by kernel_rfl) (by kernel_rfl) ?_
     repeat (go_big_quiet_step ((first
      | (go_at_call 43;exact after_of (Sr.ops_same HM _ _ _ _ _ _ _ hm9 (sx.on (After.b _)) (sy.on (After.b _)) hli)))))
     refine wpQuiet_nil ?_
     rintro _ ⟨x,rfl⟩
     have hx := x.b
     clear f2 f3 f4 f5 sx sy c3 cx0 cx1
     go_wp2
     go_roundw
     case rel => exact ⟨k + 1,by omega,by go_num,hbk.trans (hx.mono hbk.size)⟩
     case measure => simp [intOf];omega
    ·obtain rfl : k = nO := by omega
     have i1 : ¬ (k : Int) < (k : Int) := by omega
     clear c3
     have n_events : wr.cell? ⟨K,50,none⟩ = some (.slice none 0 0) := (HH.out.on hbk).ba.nn 50 (by unfold Emp;omega)
     go_wp2
     refine wp_loop_rounds 1 ?_
     rw [rounds_succ]
     go_wp2
     go_ret
     exact ⟨rfl,hbk⟩
theorem untouched_a (B K : Nat) (s : St) (w : World) (h : BkA B K s w) (hbig : Big s 1000000000000) :
  Calls Tryz.prog 48 #[.pointer (some ⟨K,0,none⟩)] w fun e w' => e = .returned (.bool true) ∧ Below w.heap.size w w' := by
 have H := Lib.hid h
 clear h
 go_enter Tryz.func48,Tryz.ntmps48
 go_wp2_with fail
 refine (was_a B K s w H.out hbig).mono ?_
 rintro e w1 ⟨rfl,hb1⟩
 go_wp2_with fail
 refine (wasOf_a B K s w1 (H.out.on hb1) hbig).mono ?_
 rintro e w2 ⟨rfl,hb2⟩
 have hb12 := hb1.trans (hb2.mono hb1.size)
 go_wp2_with fail
 refine (wasToo_a B K s w2 (H.out.on hb12) hbig).mono ?_
 rintro e w3 ⟨rfl,hb3⟩
 have hb13 := hb12.trans (hb3.mono hb12.size)
 go_wp2
 go_ret
 exact ⟨rfl,hb13⟩
end Go.Proofs.YtpkmekdpmkfcdaaGreatDoor.Kb
namespace Go.Proofs.YtpkmekdpmkfcdaaGreatDoor.Kb
set_option linter.unusedVariables false
set_option linter.unusedSimpArgs false
open Go.RowKit Go.Proofs.YtpkmekdpmkfcdaaGreatDoor.Wd Go.Proofs.YtpkmekdpmkfcdaaGreatDoor.Px Go.Proofs.YtpkmekdpmkfcdaaGreatDoor.By Go.Proofs.YtpkmekdpmkfcdaaGreatDoor.Pf Go.Proofs.YtpkmekdpmkfcdaaGreatDoor.Sc
set_option maxRecDepth 20000 in
set_option maxHeartbeats 4000000 in
theorem finish_a (B K : Nat) (s : St) (w : World) (h : BkA B K s w) (hbig : Big s 900000000000) :
  Calls Tryz.prog 22 #[.pointer (some ⟨K,0,none⟩)] w fun e w' => e = .returned (.bool true) ∧ FrO K w w' := by
 have H := Lib.hid h
 have hK := h.kw
 clear h
 go_enter Tryz.func22,Tryz.ntmps22
 go_wp2_with fail
 refine (untouched_a B K s w H.out (hbig.mono (by omega))).mono ?_
 rintro e w1 ⟨rfl,hb1⟩
 have F1 := Lib.hid (FrO.of_below hb1 hK)
 obtain ⟨L,hL,⟨n1,n2,n3,n4,n5⟩,l1,l2,l3,l4,l5⟩ := (H.out.on hb1).bok
 have HL := Lib.hid hL
 have HFW : Hid (Few L) := Lib.hid ⟨by rw [n1];exact hbig.b,by rw [n2];exact hbig.l,by rw [n3];exact hbig.c,by rw [n4];exact hbig.f,by rw [n5];exact hbig.o⟩
 have HLW : Hid (Low 2000000 L) := Lib.hid ⟨l1,l2,l3,l4,l5⟩
 clear hL n1 n2 n3 n4 n5 l1 l2 l3 l4 l5 hb1 H
 go_wp2_with fail
 refine (write_a B K 0 L w1 HL.out (by omega) HFW.out HLW.out).mono ?_
 rintro e w2 ⟨rfl,⟨L2,hB2,hn2,hm2,hl2⟩,f2⟩
 have HB2 := Lib.hid hB2
 have F2 := Lib.hid (F1.out.trans f2)
 have HFW2 := Lib.hid (HFW.out.lens hn2)
 have HM2 := Lib.hid hm2
 have HLW2 := Lib.hid hl2
 clear hB2 hn2 hm2 hl2 f2 HL HFW HLW F1
 go_wp2_with fail
 refine (holds_a B K 0 L2 ks0 w2 HB2.out (by omega) HFW2.out HM2.out (Mka.nil _ _) HLW2.out (Low.nil _)).mono ?_
 rintro e w3 ⟨rfl,hb3⟩
 have hB3 := HB2.out.on hb3
 have k1 : w3.cell? ⟨K,1,none⟩ = some (.int .i64 0) := hB3.ba.c1
 have kf := hB3.ba.fz
 have HB3 := Lib.hid hB3.pass
 have F3 := Lib.hid ((F2.out.trans (FrO.of_below hb3 HB2.out.kw)).trans (FrO.kset K w3 1 (.int .i64 1)))
 clear hB3 HM2 HB2 F2 hb3
 go_wp2_with fail
 refine (write_a B K 1 L2 _ HB3.out (by omega) HFW2.out HLW2.out).mono ?_
 rintro e w4 ⟨rfl,⟨L3,hB4,hn4,hm4,hl4⟩,f4⟩
 have HB4 := Lib.hid hB4
 have F4 := Lib.hid (F3.out.trans f4)
 have HFW4 := Lib.hid (HFW2.out.lens hn4)
 have HM4 := Lib.hid hm4
 have HLW4 := Lib.hid hl4
 clear hB4 hn4 hm4 hl4 f4 HB3 HFW2 HLW2 F3 k1 kf
 go_wp2_with fail
 refine (holds_a B K 1 L3 ks0 w4 HB4.out (by omega) HFW4.out HM4.out (Mka.nil _ _) HLW4.out (Low.nil _)).mono ?_
 rintro e w5 ⟨rfl,hb5⟩
 have HB5 := Lib.hid (HB4.out.on hb5)
 have F5 := Lib.hid (F4.out.trans (FrO.of_below hb5 HB4.out.kw))
 clear HB4 F4 hb5
 go_wp2_with fail
 refine (grow_a B K 1 L3 w5 HB5.out (by omega) HFW4.out HM4.out HLW4.out).mono ?_
 rintro e w6 ⟨rfl,⟨G,hB6,hm6,hl6⟩,f6⟩
 have HB6 := Lib.hid hB6
 have HM6 := Lib.hid hm6
 have HL6 := Lib.hid hl6
 have F6 := Lib.hid (F5.out.trans f6)
 clear hB6 hm6 hl6 f6 HB5 F5
 go_wp2_with fail
 refine (holds_a B K 1 L3 G w6 HB6.out (by omega) HFW4.out HM4.out HM6.out HLW4.out HL6.out).mono ?_
 rintro e w7 ⟨rfl,hb7⟩
 have F7 := Lib.hid (F6.out.trans (FrO.of_below hb7 HB6.out.kw))
 clear hb7 HB6 F6
 go_wp2
 go_ret
 exact ⟨rfl,F7.out⟩
end Go.Proofs.YtpkmekdpmkfcdaaGreatDoor.Kb
