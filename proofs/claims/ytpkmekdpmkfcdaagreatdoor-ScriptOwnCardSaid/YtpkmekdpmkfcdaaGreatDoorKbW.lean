/- Contract: a book's lists of one kind are written over. Contract: a book's lists of one kind are written over. Contract: a book's lists of one kind are written over. Contract: a book's lists of one kind are written over. Contract: a book's lists of one kind are written over. -/
import Derived.Test.YtpkmekdpmkfcdaaGreatDoorKbA
import Derived.Deep.RegionLaw
import Derived.RegionTactic
namespace Go.Proofs.YtpkmekdpmkfcdaaGreatDoor.Kb
set_option linter.unusedVariables false
set_option linter.unusedSimpArgs false
open Go.RowKit Go.Proofs.YtpkmekdpmkfcdaaGreatDoor.Wd Go.Proofs.YtpkmekdpmkfcdaaGreatDoor.Px Go.Proofs.YtpkmekdpmkfcdaaGreatDoor.By Go.Proofs.YtpkmekdpmkfcdaaGreatDoor.Pf Go.Proofs.YtpkmekdpmkfcdaaGreatDoor.Sc
open Go.Proofs.YtpkmekdpmkfcdaaGreatDoor.Sr (own_same own_kind own_low CRow ORow OpO Opv Und fltC Lim LimO chC opC nl put14)
set_option maxRecDepth 20000 in
set_option maxHeartbeats 8000000 in
theorem write_B (B K p id : Nat) (ls : List Lst) (w : World) (h : Kst kB B K ls [] w) (hb : Bas K p w) (hKB : K < B) (hBW : B ≤ w.heap.size) (hp : p ≤ 1) (hid : id ≤ 5000000000000) (hn : ls.length ≤ 1000000000000) (hl : ∀ l ∈ ls,l.n ≤ 2000000) :
  Calls Tryz.prog 87 #[.pointer (some ⟨K,0,none⟩),.int .i64 (id : Int)] w fun e w' => e = .returned (.int .i64 ((id + ls.length : Nat) : Int)) ∧ ∃ ks,Kst kB B K ks [] w' ∧ Wn kB p id ls ls.length 0 ks ∧ Fr kB K w w' := by
 obtain ⟨n,hnn⟩ : ∃ n,ls.length = n := ⟨_,rfl⟩
 rw [hnn] at hn ⊢
 obtain ⟨I0,hI0⟩ : ∃ I : Int,(id : Int) = I := ⟨_,rfl⟩
 obtain ⟨IN,hIN⟩ : ∃ I : Int,((id + n : Nat) : Int) = I := ⟨_,rfl⟩
 rw [hI0,hIN]
 have HI0 := Lib.hid hI0
 have HIN := Lib.hid hIN
 have HNN := Lib.hid hnn
 have HL := Lib.hid hl
 have HB0 := Lib.hid hb
 have hKw : K < w.heap.size := by omega
 clear hnn hl hb hI0 hIN
 go_enter Tryz.func87,Tryz.ntmps87
 go_wp2
 go_loopw [1,5] (fun v i wr => ∃ (q : Nat) (ks : List Lst) (I : Int),q ≤ n ∧ Hid (((id + q : Nat) : Int) = I) ∧ v = .int .i64 I ∧ i = .int .i64 (q : Int) ∧ Hid (Kst kB B K ks [] wr) ∧ Hid (Wn kB p id ls q 0 ks) ∧ Hid (Fr kB K w wr)) (fun _ i _ => n - (intOf i).toNat)
 case atStart => exact ⟨0,ls,I0,Nat.zero_le _,HI0,rfl,rfl,Lib.hid h,Lib.hid (Wn.start h.rv id),Lib.hid (Fr.refl _ _ _)⟩
 case round =>
  obtain ⟨q,ks,I,hq,HI,rfl,rfl,HB,HW,HF⟩ := hrel
  clear h
  obtain ⟨v0,v2,hd⟩ := HB.out.hd
  have o0 := hd.o0
  have hkl : ks.length = n := by rw [HW.out.1,HNN.out]
  rw [hkl] at o0
  obtain ⟨A0,k0,rfl,-⟩ := Sr.own_sl o0
  have c2 : wr.cell? ⟨K,2,none⟩ = some (.slice A0 n k0) := hd.c0
  by_cases hlt : q < n
  ·have i1 : (q : Int) < (n : Int) := by omega
   obtain ⟨J,hJ⟩ : ∃ J : Int,((id + q + 1 : Nat) : Int) = J := ⟨_,rfl⟩
   have iw : IntKind.i64.wrap (I + 1) = J := by rw [← HI.out,← hJ,IntWalk.i64_in _ ⟨by omega,by omega⟩];simp
   have HJ := Lib.hid hJ
   obtain ⟨⟨lv,m,ld⟩,hl0⟩ : ∃ l,ls[q]? = some l := ⟨_,List.getElem?_eq_getElem (by rw [HNN.out];exact hlt)⟩
   have hm9 : m ≤ 2000000 := HL.out _ (List.mem_of_getElem? hl0)
   have HL0 := Lib.hid hl0
   clear hl0 o0 hkl hd hJ
   go_wp2
   go_loopw [6] (fun j wr => ∃ (r : Nat) (es : List Lst),r ≤ m ∧ j = .int .i64 (r : Int) ∧ Hid (Kst kB B K es [] wr) ∧ Hid (Wn kB p id ls q r es) ∧ Hid (Fr kB K w wr)) (fun j _ => m - (intOf j).toNat)
   case atStart => exact ⟨0,ks,Nat.zero_le _,rfl,HB,HW,HF⟩
   case round =>
    obtain ⟨r,es,hr,rfl,HB,HW,HF⟩ := hrel
    clear c2
    obtain ⟨v0,v2,hd⟩ := HB.out.hd
    have o0 := hd.o0
    have hel : es.length = n := by rw [HW.out.1,HNN.out]
    rw [hel] at o0
    obtain ⟨g0,k0,rfl,-,-⟩ := o0.form (by omega)
    obtain ⟨d,hd0,hdl⟩ := HW.out.get HL0.out
    have cx0 : wr.cell? ⟨g0,q,none⟩ = some lv := (o0.cellAt q (by omega)).trans (by rw [List.getElem?_map,hd0];rfl)
    have c2 : wr.cell? ⟨K,2,none⟩ = some (.slice (some ⟨g0,0,none⟩) n k0) := hd.c0
    have c1 := (HB0.out.fr HF.out (by decide) emp_B).c1
    have ox : wr.ownsRow B kB.e kB.s lv m d := HB.out.rv q _ hd0
    have hwi : w.heap.size ≤ wr.heap.size := HF.out.size
    by_cases hrm : r < m
    ·have i2 : (r : Int) < (m : Int) := by omega
     obtain ⟨g,kx,rfl,-,-⟩ := ox.form (by omega)
     obtain ⟨z0,cz0⟩ := own_elem ox hrm (i := 0) (by decide)
     rw [show r * kB.s + 0 = r from Nat.mul_one r] at cz0
     replace cz0 : wr.drew.cell? ⟨g,r,none⟩ = some z0 := cz0
     have cf : ∀ j,wr.drew.frozen? ⟨g,j,none⟩ = false := ox.frozenAt
     have hgw : g < wr.drew.heap.size := (ox.lt g rfl).2
     have c1d : wr.drew.cell? ⟨K,1,none⟩ = some (.int .i64 (p : Int)) := c1
     have c2d : wr.drew.cell? ⟨K,2,none⟩ = some (.slice (some ⟨g0,0,none⟩) n k0) := c2
     have cx0d : wr.drew.cell? ⟨g0,q,none⟩ = some (.slice (some ⟨g,0,none⟩) m kx) := cx0
     obtain ⟨M,hM⟩ : ∃ M : Int,((bmk p (id + q + 1) (r)).toNat : Int) = M := ⟨_,rfl⟩
     have HM := Lib.hid hM
     have hid2 : id + q + 1 ≤ 10000000000000 := by omega
     have hr2 : r ≤ 10000000000000 := by omega
     have HD0 := Lib.hid hd0
     have HDL := Lib.hid hdl
     have HBd := Lib.hid (HB.out.on (Below.refl _ _).drew (by omega))
     have HFd := Lib.hid (HF.out.drew)
     clear hM ox hd0 hdl hel o0 hd HB HF
     go_upto_region 8 with fail
     clear c1 c2 cx0
     go_region_law (first
      | (go_simp;go_at_call 180;with_reducible refine (mark_B_as HJ HM _ c1d hp hid2 hr2).mono ?_;rintro e w3 ⟨rfl,hb3⟩;have c2e := keepc hb3 c2d;have cx0e := keepc hb3 cx0d;have dz0 := keepc hb3 cz0;have cfe := keepf hb3 hgw cf))
     all_goals
      clear cz0 dz0 cf cfe c1d c2d cx0d c2e cx0e
      change Exit.inBlock _ _ _ _ (putC g w3 (r) [.int .u8 M])
      have hsz3 : w.heap.size ≤ wr.drew.heap.size := hwi
      have hput := (HBd.out.on hb3 (by omega)).put hKB (by decide) HD0.out (r) [.int .u8 M] (by
       have h1 : d.length = m * 1 := HDL.out
       have h2 := Nat.mul_le_mul_right 1 (show r + 1 ≤ m from hrm)
       rw [Nat.succ_mul] at h2
       show r + 1 ≤ d.length
       omega)
      have HKB2 := Lib.hid hput.1
      have HF2 := Lib.hid ((HFd.out.trans (Fr.of_below hb3 (by omega))).trans hput.2)
      have hst := HW.out.step okB HL0.out HD0.out hrm
      rw [mkB_eq HJ HM,show r * kB.s = r from Nat.mul_one r] at hst
      have HW2 : Hid (Wn kB p id ls q (r + 1) (es.set q ⟨.slice (some ⟨g,0,none⟩) m kx,m,putL d (r) [.int .u8 M]⟩)) := Lib.hid hst
      clear hput hst hb3
      generalize (putC g w3 (r) [.int .u8 M]) = w4 at HKB2 HF2 ⊢
      go_wp2
      go_roundw
      case rel => exact ⟨r + 1,_,by omega,by go_num,HKB2,HW2,HF2⟩
      case measure => simp [intOf];omega
    ·obtain rfl : r = m := by omega
     have i2 : ¬ (r : Int) < (r : Int) := by omega
     obtain ⟨Ax,kx,rfl,-⟩ := Sr.own_sl ox
     clear ox hd0 hdl o0 hd hel
     have hW2 := Lib.hid (Wn.next okB HW.out HL0.out)
     go_wp2
     go_roundw
     case rel => exact ⟨q + 1,es,J,by omega,HJ,rfl,by go_num,HB,hW2,HF⟩
     case measure => simp [intOf];omega
  ·obtain rfl : q = n := by omega
   have i1 : ¬ (q : Int) < (q : Int) := by omega
   have HV : Hid (I = IN) := Lib.hid (by rw [← HI.out,← HIN.out])
   clear hd o0 hkl
   go_wp2
   go_ret
   have hv := HV.out
   subst hv
   exact ⟨rfl,ks,HB.out,HW.out,HF.out⟩
end Go.Proofs.YtpkmekdpmkfcdaaGreatDoor.Kb
namespace Go.Proofs.YtpkmekdpmkfcdaaGreatDoor.Kb
set_option linter.unusedVariables false
set_option linter.unusedSimpArgs false
open Go.RowKit Go.Proofs.YtpkmekdpmkfcdaaGreatDoor.Wd Go.Proofs.YtpkmekdpmkfcdaaGreatDoor.Px Go.Proofs.YtpkmekdpmkfcdaaGreatDoor.By Go.Proofs.YtpkmekdpmkfcdaaGreatDoor.Pf Go.Proofs.YtpkmekdpmkfcdaaGreatDoor.Sc
open Go.Proofs.YtpkmekdpmkfcdaaGreatDoor.Sr (own_same own_kind own_low CRow ORow OpO Opv Und fltC Lim LimO chC opC nl put14)
set_option maxRecDepth 20000 in
set_option maxHeartbeats 8000000 in
theorem write_L (B K p id : Nat) (ls : List Lst) (w : World) (h : Kst kL B K ls [] w) (hb : Bas K p w) (hKB : K < B) (hBW : B ≤ w.heap.size) (hp : p ≤ 1) (hid : id ≤ 5000000000000) (hn : ls.length ≤ 1000000000000) (hl : ∀ l ∈ ls,l.n ≤ 2000000) :
  Calls Tryz.prog 88 #[.pointer (some ⟨K,0,none⟩),.int .i64 (id : Int)] w fun e w' => e = .returned (.int .i64 ((id + ls.length : Nat) : Int)) ∧ ∃ ks,Kst kL B K ks [] w' ∧ Wn kL p id ls ls.length 0 ks ∧ Fr kL K w w' := by
 obtain ⟨n,hnn⟩ : ∃ n,ls.length = n := ⟨_,rfl⟩
 rw [hnn] at hn ⊢
 obtain ⟨I0,hI0⟩ : ∃ I : Int,(id : Int) = I := ⟨_,rfl⟩
 obtain ⟨IN,hIN⟩ : ∃ I : Int,((id + n : Nat) : Int) = I := ⟨_,rfl⟩
 rw [hI0,hIN]
 have HI0 := Lib.hid hI0
 have HIN := Lib.hid hIN
 have HNN := Lib.hid hnn
 have HL := Lib.hid hl
 have HB0 := Lib.hid hb
 have hKw : K < w.heap.size := by omega
 clear hnn hl hb hI0 hIN
 go_enter Tryz.func88,Tryz.ntmps88
 go_wp2
 go_loopw [1,5] (fun v i wr => ∃ (q : Nat) (ks : List Lst) (I : Int),q ≤ n ∧ Hid (((id + q : Nat) : Int) = I) ∧ v = .int .i64 I ∧ i = .int .i64 (q : Int) ∧ Hid (Kst kL B K ks [] wr) ∧ Hid (Wn kL p id ls q 0 ks) ∧ Hid (Fr kL K w wr)) (fun _ i _ => n - (intOf i).toNat)
 case atStart => exact ⟨0,ls,I0,Nat.zero_le _,HI0,rfl,rfl,Lib.hid h,Lib.hid (Wn.start h.rv id),Lib.hid (Fr.refl _ _ _)⟩
 case round =>
  obtain ⟨q,ks,I,hq,HI,rfl,rfl,HB,HW,HF⟩ := hrel
  clear h
  obtain ⟨v0,v2,hd⟩ := HB.out.hd
  have o0 := hd.o0
  have hkl : ks.length = n := by rw [HW.out.1,HNN.out]
  rw [hkl] at o0
  obtain ⟨A0,k0,rfl,-⟩ := Sr.own_sl o0
  have c2 : wr.cell? ⟨K,5,none⟩ = some (.slice A0 n k0) := hd.c0
  by_cases hlt : q < n
  ·have i1 : (q : Int) < (n : Int) := by omega
   obtain ⟨J,hJ⟩ : ∃ J : Int,((id + q + 1 : Nat) : Int) = J := ⟨_,rfl⟩
   have iw : IntKind.i64.wrap (I + 1) = J := by rw [← HI.out,← hJ,IntWalk.i64_in _ ⟨by omega,by omega⟩];simp
   have HJ := Lib.hid hJ
   obtain ⟨⟨lv,m,ld⟩,hl0⟩ : ∃ l,ls[q]? = some l := ⟨_,List.getElem?_eq_getElem (by rw [HNN.out];exact hlt)⟩
   have hm9 : m ≤ 2000000 := HL.out _ (List.mem_of_getElem? hl0)
   have HL0 := Lib.hid hl0
   clear hl0 o0 hkl hd hJ
   go_wp2
   go_loopw [6] (fun j wr => ∃ (r : Nat) (es : List Lst),r ≤ m ∧ j = .int .i64 (r : Int) ∧ Hid (Kst kL B K es [] wr) ∧ Hid (Wn kL p id ls q r es) ∧ Hid (Fr kL K w wr)) (fun j _ => m - (intOf j).toNat)
   case atStart => exact ⟨0,ks,Nat.zero_le _,rfl,HB,HW,HF⟩
   case round =>
    obtain ⟨r,es,hr,rfl,HB,HW,HF⟩ := hrel
    clear c2
    obtain ⟨v0,v2,hd⟩ := HB.out.hd
    have o0 := hd.o0
    have hel : es.length = n := by rw [HW.out.1,HNN.out]
    rw [hel] at o0
    obtain ⟨g0,k0,rfl,-,-⟩ := o0.form (by omega)
    obtain ⟨d,hd0,hdl⟩ := HW.out.get HL0.out
    have cx0 : wr.cell? ⟨g0,q,none⟩ = some lv := (o0.cellAt q (by omega)).trans (by rw [List.getElem?_map,hd0];rfl)
    have c2 : wr.cell? ⟨K,5,none⟩ = some (.slice (some ⟨g0,0,none⟩) n k0) := hd.c0
    have c1 := (HB0.out.fr HF.out (by decide) emp_L).c1
    have ox : wr.ownsRow B kL.e kL.s lv m d := HB.out.rv q _ hd0
    have hwi : w.heap.size ≤ wr.heap.size := HF.out.size
    by_cases hrm : r < m
    ·have i2 : (r : Int) < (m : Int) := by omega
     obtain ⟨g,kx,rfl,-,-⟩ := ox.form (by omega)
     obtain ⟨z0,cz0⟩ := own_elem ox hrm (i := 0) (by decide)
     rw [show r * kL.s + 0 = r from Nat.mul_one r] at cz0
     replace cz0 : wr.drew.cell? ⟨g,r,none⟩ = some z0 := cz0
     have cf : ∀ j,wr.drew.frozen? ⟨g,j,none⟩ = false := ox.frozenAt
     have hgw : g < wr.drew.heap.size := (ox.lt g rfl).2
     have c1d : wr.drew.cell? ⟨K,1,none⟩ = some (.int .i64 (p : Int)) := c1
     have c2d : wr.drew.cell? ⟨K,5,none⟩ = some (.slice (some ⟨g0,0,none⟩) n k0) := c2
     have cx0d : wr.drew.cell? ⟨g0,q,none⟩ = some (.slice (some ⟨g,0,none⟩) m kx) := cx0
     obtain ⟨M,hM⟩ : ∃ M : Bool,lmk p (id + q + 1) (r) = M := ⟨_,rfl⟩
     have HM := Lib.hid hM
     have hid2 : id + q + 1 ≤ 10000000000000 := by omega
     have hr2 : r ≤ 10000000000000 := by omega
     have HD0 := Lib.hid hd0
     have HDL := Lib.hid hdl
     have HBd := Lib.hid (HB.out.on (Below.refl _ _).drew (by omega))
     have HFd := Lib.hid (HF.out.drew)
     clear hM ox hd0 hdl hel o0 hd HB HF
     go_upto_region 8 with fail
     clear c1 c2 cx0
     go_region_law (first
      | (go_simp;go_at_call 181;with_reducible refine (mark_L_as HJ HM _ c1d hp hid2 hr2).mono ?_;rintro e w3 ⟨rfl,hb3⟩;have c2e := keepc hb3 c2d;have cx0e := keepc hb3 cx0d;have dz0 := keepc hb3 cz0;have cfe := keepf hb3 hgw cf))
     all_goals
      clear cz0 dz0 cf cfe c1d c2d cx0d c2e cx0e
      change Exit.inBlock _ _ _ _ (putC g w3 (r) [.bool M])
      have hsz3 : w.heap.size ≤ wr.drew.heap.size := hwi
      have hput := (HBd.out.on hb3 (by omega)).put hKB (by decide) HD0.out (r) [.bool M] (by
       have h1 : d.length = m * 1 := HDL.out
       have h2 := Nat.mul_le_mul_right 1 (show r + 1 ≤ m from hrm)
       rw [Nat.succ_mul] at h2
       show r + 1 ≤ d.length
       omega)
      have HKB2 := Lib.hid hput.1
      have HF2 := Lib.hid ((HFd.out.trans (Fr.of_below hb3 (by omega))).trans hput.2)
      have hst := HW.out.step okL HL0.out HD0.out hrm
      rw [mkL_eq HJ HM,show r * kL.s = r from Nat.mul_one r] at hst
      have HW2 : Hid (Wn kL p id ls q (r + 1) (es.set q ⟨.slice (some ⟨g,0,none⟩) m kx,m,putL d (r) [.bool M]⟩)) := Lib.hid hst
      clear hput hst hb3
      generalize (putC g w3 (r) [.bool M]) = w4 at HKB2 HF2 ⊢
      go_wp2
      go_roundw
      case rel => exact ⟨r + 1,_,by omega,by go_num,HKB2,HW2,HF2⟩
      case measure => simp [intOf];omega
    ·obtain rfl : r = m := by omega
     have i2 : ¬ (r : Int) < (r : Int) := by omega
     obtain ⟨Ax,kx,rfl,-⟩ := Sr.own_sl ox
     clear ox hd0 hdl o0 hd hel
     have hW2 := Lib.hid (Wn.next okL HW.out HL0.out)
     go_wp2
     go_roundw
     case rel => exact ⟨q + 1,es,J,by omega,HJ,rfl,by go_num,HB,hW2,HF⟩
     case measure => simp [intOf];omega
  ·obtain rfl : q = n := by omega
   have i1 : ¬ (q : Int) < (q : Int) := by omega
   have HV : Hid (I = IN) := Lib.hid (by rw [← HI.out,← HIN.out])
   clear hd o0 hkl
   go_wp2
   go_ret
   have hv := HV.out
   subst hv
   exact ⟨rfl,ks,HB.out,HW.out,HF.out⟩
end Go.Proofs.YtpkmekdpmkfcdaaGreatDoor.Kb
namespace Go.Proofs.YtpkmekdpmkfcdaaGreatDoor.Kb
set_option linter.unusedVariables false
set_option linter.unusedSimpArgs false
open Go.RowKit Go.Proofs.YtpkmekdpmkfcdaaGreatDoor.Wd Go.Proofs.YtpkmekdpmkfcdaaGreatDoor.Px Go.Proofs.YtpkmekdpmkfcdaaGreatDoor.By Go.Proofs.YtpkmekdpmkfcdaaGreatDoor.Pf Go.Proofs.YtpkmekdpmkfcdaaGreatDoor.Sc
open Go.Proofs.YtpkmekdpmkfcdaaGreatDoor.Sr (own_same own_kind own_low CRow ORow OpO Opv Und fltC Lim LimO chC opC nl put14)
set_option maxRecDepth 20000 in
set_option maxHeartbeats 8000000 in
theorem write_C (B K p id : Nat) (ls : List Lst) (w : World) (h : Kst kC B K ls [] w) (hb : Bas K p w) (hKB : K < B) (hBW : B ≤ w.heap.size) (hp : p ≤ 1) (hid : id ≤ 5000000000000) (hn : ls.length ≤ 1000000000000) (hl : ∀ l ∈ ls,l.n ≤ 2000000) :
  Calls Tryz.prog 99 #[.pointer (some ⟨K,0,none⟩),.int .i64 (id : Int)] w fun e w' => e = .returned (.int .i64 ((id + ls.length : Nat) : Int)) ∧ ∃ ks,Kst kC B K ks [] w' ∧ Wn kC p id ls ls.length 0 ks ∧ Fr kC K w w' := by
 obtain ⟨n,hnn⟩ : ∃ n,ls.length = n := ⟨_,rfl⟩
 rw [hnn] at hn ⊢
 obtain ⟨I0,hI0⟩ : ∃ I : Int,(id : Int) = I := ⟨_,rfl⟩
 obtain ⟨IN,hIN⟩ : ∃ I : Int,((id + n : Nat) : Int) = I := ⟨_,rfl⟩
 rw [hI0,hIN]
 have HI0 := Lib.hid hI0
 have HIN := Lib.hid hIN
 have HNN := Lib.hid hnn
 have HL := Lib.hid hl
 have HB0 := Lib.hid hb
 have hKw : K < w.heap.size := by omega
 clear hnn hl hb hI0 hIN
 go_enter Tryz.func99,Tryz.ntmps99
 go_wp2
 go_loopw [1,5] (fun v i wr => ∃ (q : Nat) (ks : List Lst) (I : Int),q ≤ n ∧ Hid (((id + q : Nat) : Int) = I) ∧ v = .int .i64 I ∧ i = .int .i64 (q : Int) ∧ Hid (Kst kC B K ks [] wr) ∧ Hid (Wn kC p id ls q 0 ks) ∧ Hid (Fr kC K w wr)) (fun _ i _ => n - (intOf i).toNat)
 case atStart => exact ⟨0,ls,I0,Nat.zero_le _,HI0,rfl,rfl,Lib.hid h,Lib.hid (Wn.start h.rv id),Lib.hid (Fr.refl _ _ _)⟩
 case round =>
  obtain ⟨q,ks,I,hq,HI,rfl,rfl,HB,HW,HF⟩ := hrel
  clear h
  obtain ⟨v0,v2,hd⟩ := HB.out.hd
  have o0 := hd.o0
  have hkl : ks.length = n := by rw [HW.out.1,HNN.out]
  rw [hkl] at o0
  obtain ⟨A0,k0,rfl,-⟩ := Sr.own_sl o0
  have c2 : wr.cell? ⟨K,38,none⟩ = some (.slice A0 n k0) := hd.c0
  by_cases hlt : q < n
  ·have i1 : (q : Int) < (n : Int) := by omega
   obtain ⟨J,hJ⟩ : ∃ J : Int,((id + q + 1 : Nat) : Int) = J := ⟨_,rfl⟩
   have iw : IntKind.i64.wrap (I + 1) = J := by rw [← HI.out,← hJ,IntWalk.i64_in _ ⟨by omega,by omega⟩];simp
   have HJ := Lib.hid hJ
   obtain ⟨⟨lv,m,ld⟩,hl0⟩ : ∃ l,ls[q]? = some l := ⟨_,List.getElem?_eq_getElem (by rw [HNN.out];exact hlt)⟩
   have hm9 : m ≤ 2000000 := HL.out _ (List.mem_of_getElem? hl0)
   have HL0 := Lib.hid hl0
   clear hl0 o0 hkl hd hJ
   go_wp2
   go_loopw [6] (fun j wr => ∃ (r : Nat) (es : List Lst),r ≤ m ∧ j = .int .i64 (r : Int) ∧ Hid (Kst kC B K es [] wr) ∧ Hid (Wn kC p id ls q r es) ∧ Hid (Fr kC K w wr)) (fun j _ => m - (intOf j).toNat)
   case atStart => exact ⟨0,ks,Nat.zero_le _,rfl,HB,HW,HF⟩
   case round =>
    obtain ⟨r,es,hr,rfl,HB,HW,HF⟩ := hrel
    clear c2
    obtain ⟨v0,v2,hd⟩ := HB.out.hd
    have o0 := hd.o0
    have hel : es.length = n := by rw [HW.out.1,HNN.out]
    rw [hel] at o0
    obtain ⟨g0,k0,rfl,-,-⟩ := o0.form (by omega)
    obtain ⟨d,hd0,hdl⟩ := HW.out.get HL0.out
    have cx0 : wr.cell? ⟨g0,q,none⟩ = some lv := (o0.cellAt q (by omega)).trans (by rw [List.getElem?_map,hd0];rfl)
    have c2 : wr.cell? ⟨K,38,none⟩ = some (.slice (some ⟨g0,0,none⟩) n k0) := hd.c0
    have c1 := (HB0.out.fr HF.out (by decide) emp_C).c1
    have ox : wr.ownsRow B kC.e kC.s lv m d := HB.out.rv q _ hd0
    have hwi : w.heap.size ≤ wr.heap.size := HF.out.size
    by_cases hrm : r < m
    ·have i2 : (r : Int) < (m : Int) := by omega
     obtain ⟨g,kx,rfl,-,-⟩ := ox.form (by omega)
     obtain ⟨z0,cz0⟩ := own_elem ox hrm (i := 0) (by decide)
     replace cz0 : wr.drew.cell? ⟨g,r * 8,none⟩ = some z0 := cz0
     obtain ⟨z1,cz1⟩ := own_elem ox hrm (i := 1) (by decide)
     replace cz1 : wr.drew.cell? ⟨g,r * 8 + 1,none⟩ = some z1 := cz1
     obtain ⟨z2,cz2⟩ := own_elem ox hrm (i := 2) (by decide)
     replace cz2 : wr.drew.cell? ⟨g,r * 8 + 2,none⟩ = some z2 := cz2
     obtain ⟨z3,cz3⟩ := own_elem ox hrm (i := 3) (by decide)
     replace cz3 : wr.drew.cell? ⟨g,r * 8 + 3,none⟩ = some z3 := cz3
     obtain ⟨z4,cz4⟩ := own_elem ox hrm (i := 4) (by decide)
     replace cz4 : wr.drew.cell? ⟨g,r * 8 + 4,none⟩ = some z4 := cz4
     obtain ⟨z5,cz5⟩ := own_elem ox hrm (i := 5) (by decide)
     replace cz5 : wr.drew.cell? ⟨g,r * 8 + 5,none⟩ = some z5 := cz5
     obtain ⟨z6,cz6⟩ := own_elem ox hrm (i := 6) (by decide)
     replace cz6 : wr.drew.cell? ⟨g,r * 8 + 6,none⟩ = some z6 := cz6
     obtain ⟨z7,cz7⟩ := own_elem ox hrm (i := 7) (by decide)
     replace cz7 : wr.drew.cell? ⟨g,r * 8 + 7,none⟩ = some z7 := cz7
     have cf : ∀ j,wr.drew.frozen? ⟨g,j,none⟩ = false := ox.frozenAt
     have hgw : g < wr.drew.heap.size := (ox.lt g rfl).2
     have c1d : wr.drew.cell? ⟨K,1,none⟩ = some (.int .i64 (p : Int)) := c1
     have c2d : wr.drew.cell? ⟨K,38,none⟩ = some (.slice (some ⟨g0,0,none⟩) n k0) := c2
     have cx0d : wr.drew.cell? ⟨g0,q,none⟩ = some (.slice (some ⟨g,0,none⟩) m kx) := cx0
     obtain ⟨M,hM⟩ : ∃ M : Int,((2 * (r) + p : Nat) : Int) = M := ⟨_,rfl⟩
     have HM := Lib.hid hM
     have hid2 : id + q + 1 ≤ 10000000000000 := by omega
     have hr2 : r ≤ 10000000000000 := by omega
     have HD0 := Lib.hid hd0
     have HDL := Lib.hid hdl
     have HBd := Lib.hid (HB.out.on (Below.refl _ _).drew (by omega))
     have HFd := Lib.hid (HF.out.drew)
     clear hM ox hd0 hdl hel o0 hd HB HF
     go_upto_region 8 with fail
     clear c1 c2 cx0
     go_region_law (first
      | (go_simp;go_at_call 192;with_reducible refine (mark_C_as HJ HM _ c1d hp hid2 hr2).mono ?_;rintro e w3 ⟨rfl,hb3⟩;have c2e := keepc hb3 c2d;have cx0e := keepc hb3 cx0d;have dz0 := keepc hb3 cz0;have dz1 := keepc hb3 cz1;have dz2 := keepc hb3 cz2;have dz3 := keepc hb3 cz3;have dz4 := keepc hb3 cz4;have dz5 := keepc hb3 cz5;have dz6 := keepc hb3 cz6;have dz7 := keepc hb3 cz7;have cfe := keepf hb3 hgw cf))
     all_goals
      clear cz0 cz1 cz2 cz3 cz4 cz5 cz6 cz7 dz0 dz1 dz2 dz3 dz4 dz5 dz6 dz7 cf cfe c1d c2d cx0d c2e cx0e
      change Exit.inBlock _ _ _ _ (putC g w3 (r * 8) [.int .i64 J,.int .i64 M,.int .i64 0,.slice none 0 0,.int .i64 0,.int .u64 0,.int .u64 0,.int .i64 0])
      have hsz3 : w.heap.size ≤ wr.drew.heap.size := hwi
      have hput := (HBd.out.on hb3 (by omega)).put hKB (by decide) HD0.out (r * 8) [.int .i64 J,.int .i64 M,.int .i64 0,.slice none 0 0,.int .i64 0,.int .u64 0,.int .u64 0,.int .i64 0] (by
       have h1 : d.length = m * 8 := HDL.out
       have h2 := Nat.mul_le_mul_right 8 (show r + 1 ≤ m from hrm)
       rw [Nat.succ_mul] at h2
       show r * 8 + 8 ≤ d.length
       omega)
      have HKB2 := Lib.hid hput.1
      have HF2 := Lib.hid ((HFd.out.trans (Fr.of_below hb3 (by omega))).trans hput.2)
      have hst := HW.out.step okC HL0.out HD0.out hrm
      rw [mkC_eq HJ HM] at hst
      have HW2 : Hid (Wn kC p id ls q (r + 1) (es.set q ⟨.slice (some ⟨g,0,none⟩) m kx,m,putL d (r * 8) [.int .i64 J,.int .i64 M,.int .i64 0,.slice none 0 0,.int .i64 0,.int .u64 0,.int .u64 0,.int .i64 0]⟩)) := Lib.hid hst
      clear hput hst hb3
      generalize (putC g w3 (r * 8) [.int .i64 J,.int .i64 M,.int .i64 0,.slice none 0 0,.int .i64 0,.int .u64 0,.int .u64 0,.int .i64 0]) = w4 at HKB2 HF2 ⊢
      go_wp2
      go_roundw
      case rel => exact ⟨r + 1,_,by omega,by go_num,HKB2,HW2,HF2⟩
      case measure => simp [intOf];omega
    ·obtain rfl : r = m := by omega
     have i2 : ¬ (r : Int) < (r : Int) := by omega
     obtain ⟨Ax,kx,rfl,-⟩ := Sr.own_sl ox
     clear ox hd0 hdl o0 hd hel
     have hW2 := Lib.hid (Wn.next okC HW.out HL0.out)
     go_wp2
     go_roundw
     case rel => exact ⟨q + 1,es,J,by omega,HJ,rfl,by go_num,HB,hW2,HF⟩
     case measure => simp [intOf];omega
  ·obtain rfl : q = n := by omega
   have i1 : ¬ (q : Int) < (q : Int) := by omega
   have HV : Hid (I = IN) := Lib.hid (by rw [← HI.out,← HIN.out])
   clear hd o0 hkl
   go_wp2
   go_ret
   have hv := HV.out
   subst hv
   exact ⟨rfl,ks,HB.out,HW.out,HF.out⟩
end Go.Proofs.YtpkmekdpmkfcdaaGreatDoor.Kb
namespace Go.Proofs.YtpkmekdpmkfcdaaGreatDoor.Kb
set_option linter.unusedVariables false
set_option linter.unusedSimpArgs false
open Go.RowKit Go.Proofs.YtpkmekdpmkfcdaaGreatDoor.Wd Go.Proofs.YtpkmekdpmkfcdaaGreatDoor.Px Go.Proofs.YtpkmekdpmkfcdaaGreatDoor.By Go.Proofs.YtpkmekdpmkfcdaaGreatDoor.Pf Go.Proofs.YtpkmekdpmkfcdaaGreatDoor.Sc
open Go.Proofs.YtpkmekdpmkfcdaaGreatDoor.Sr (own_same own_kind own_low CRow ORow OpO Opv Und fltC Lim LimO chC opC nl put14)
set_option maxRecDepth 20000 in
set_option maxHeartbeats 8000000 in
theorem write_F (B K p id : Nat) (ls : List Lst) (w : World) (h : Kst kF B K ls [] w) (hb : Bas K p w) (hKB : K < B) (hBW : B ≤ w.heap.size) (hp : p ≤ 1) (hid : id ≤ 5000000000000) (hn : ls.length ≤ 1000000000000) (hl : ∀ l ∈ ls,l.n ≤ 2000000) :
  Calls Tryz.prog 100 #[.pointer (some ⟨K,0,none⟩),.int .i64 (id : Int)] w fun e w' => e = .returned (.int .i64 ((id + ls.length : Nat) : Int)) ∧ ∃ ks,Kst kF B K ks [] w' ∧ Wn kF p id ls ls.length 0 ks ∧ Fr kF K w w' := by
 obtain ⟨n,hnn⟩ : ∃ n,ls.length = n := ⟨_,rfl⟩
 rw [hnn] at hn ⊢
 obtain ⟨I0,hI0⟩ : ∃ I : Int,(id : Int) = I := ⟨_,rfl⟩
 obtain ⟨IN,hIN⟩ : ∃ I : Int,((id + n : Nat) : Int) = I := ⟨_,rfl⟩
 rw [hI0,hIN]
 have HI0 := Lib.hid hI0
 have HIN := Lib.hid hIN
 have HNN := Lib.hid hnn
 have HL := Lib.hid hl
 have HB0 := Lib.hid hb
 have hKw : K < w.heap.size := by omega
 clear hnn hl hb hI0 hIN
 go_enter Tryz.func100,Tryz.ntmps100
 go_wp2
 go_loopw [1,5] (fun v i wr => ∃ (q : Nat) (ks : List Lst) (I : Int),q ≤ n ∧ Hid (((id + q : Nat) : Int) = I) ∧ v = .int .i64 I ∧ i = .int .i64 (q : Int) ∧ Hid (Kst kF B K ks [] wr) ∧ Hid (Wn kF p id ls q 0 ks) ∧ Hid (Fr kF K w wr)) (fun _ i _ => n - (intOf i).toNat)
 case atStart => exact ⟨0,ls,I0,Nat.zero_le _,HI0,rfl,rfl,Lib.hid h,Lib.hid (Wn.start h.rv id),Lib.hid (Fr.refl _ _ _)⟩
 case round =>
  obtain ⟨q,ks,I,hq,HI,rfl,rfl,HB,HW,HF⟩ := hrel
  clear h
  obtain ⟨v0,v2,hd⟩ := HB.out.hd
  have o0 := hd.o0
  have hkl : ks.length = n := by rw [HW.out.1,HNN.out]
  rw [hkl] at o0
  obtain ⟨A0,k0,rfl,-⟩ := Sr.own_sl o0
  have c2 : wr.cell? ⟨K,41,none⟩ = some (.slice A0 n k0) := hd.c0
  by_cases hlt : q < n
  ·have i1 : (q : Int) < (n : Int) := by omega
   obtain ⟨J,hJ⟩ : ∃ J : Int,((id + q + 1 : Nat) : Int) = J := ⟨_,rfl⟩
   have iw : IntKind.i64.wrap (I + 1) = J := by rw [← HI.out,← hJ,IntWalk.i64_in _ ⟨by omega,by omega⟩];simp
   have HJ := Lib.hid hJ
   obtain ⟨⟨lv,m,ld⟩,hl0⟩ : ∃ l,ls[q]? = some l := ⟨_,List.getElem?_eq_getElem (by rw [HNN.out];exact hlt)⟩
   have hm9 : m ≤ 2000000 := HL.out _ (List.mem_of_getElem? hl0)
   have HL0 := Lib.hid hl0
   clear hl0 o0 hkl hd hJ
   go_wp2
   go_loopw [6] (fun j wr => ∃ (r : Nat) (es : List Lst),r ≤ m ∧ j = .int .i64 (r : Int) ∧ Hid (Kst kF B K es [] wr) ∧ Hid (Wn kF p id ls q r es) ∧ Hid (Fr kF K w wr)) (fun j _ => m - (intOf j).toNat)
   case atStart => exact ⟨0,ks,Nat.zero_le _,rfl,HB,HW,HF⟩
   case round =>
    obtain ⟨r,es,hr,rfl,HB,HW,HF⟩ := hrel
    clear c2
    obtain ⟨v0,v2,hd⟩ := HB.out.hd
    have o0 := hd.o0
    have hel : es.length = n := by rw [HW.out.1,HNN.out]
    rw [hel] at o0
    obtain ⟨g0,k0,rfl,-,-⟩ := o0.form (by omega)
    obtain ⟨d,hd0,hdl⟩ := HW.out.get HL0.out
    have cx0 : wr.cell? ⟨g0,q,none⟩ = some lv := (o0.cellAt q (by omega)).trans (by rw [List.getElem?_map,hd0];rfl)
    have c2 : wr.cell? ⟨K,41,none⟩ = some (.slice (some ⟨g0,0,none⟩) n k0) := hd.c0
    have c1 := (HB0.out.fr HF.out (by decide) emp_F).c1
    have ox : wr.ownsRow B kF.e kF.s lv m d := HB.out.rv q _ hd0
    have hwi : w.heap.size ≤ wr.heap.size := HF.out.size
    by_cases hrm : r < m
    ·have i2 : (r : Int) < (m : Int) := by omega
     obtain ⟨g,kx,rfl,-,-⟩ := ox.form (by omega)
     obtain ⟨z0,cz0⟩ := own_elem ox hrm (i := 0) (by decide)
     replace cz0 : wr.drew.cell? ⟨g,r * 2,none⟩ = some z0 := cz0
     obtain ⟨z1,cz1⟩ := own_elem ox hrm (i := 1) (by decide)
     replace cz1 : wr.drew.cell? ⟨g,r * 2 + 1,none⟩ = some z1 := cz1
     have cf : ∀ j,wr.drew.frozen? ⟨g,j,none⟩ = false := ox.frozenAt
     have hgw : g < wr.drew.heap.size := (ox.lt g rfl).2
     have c1d : wr.drew.cell? ⟨K,1,none⟩ = some (.int .i64 (p : Int)) := c1
     have c2d : wr.drew.cell? ⟨K,41,none⟩ = some (.slice (some ⟨g0,0,none⟩) n k0) := c2
     have cx0d : wr.drew.cell? ⟨g0,q,none⟩ = some (.slice (some ⟨g,0,none⟩) m kx) := cx0
     obtain ⟨M,hM⟩ : ∃ M : Int,((2 * (r) + p : Nat) : Int) = M := ⟨_,rfl⟩
     have HM := Lib.hid hM
     have hid2 : id + q + 1 ≤ 10000000000000 := by omega
     have hr2 : r ≤ 10000000000000 := by omega
     have HD0 := Lib.hid hd0
     have HDL := Lib.hid hdl
     have HBd := Lib.hid (HB.out.on (Below.refl _ _).drew (by omega))
     have HFd := Lib.hid (HF.out.drew)
     clear hM ox hd0 hdl hel o0 hd HB HF
     go_upto_region 8 with fail
     clear c1 c2 cx0
     go_region_law (first
      | (go_simp;go_at_call 193;with_reducible refine (mark_F_as HJ HM _ c1d hp hid2 hr2).mono ?_;rintro e w3 ⟨rfl,hb3⟩;have c2e := keepc hb3 c2d;have cx0e := keepc hb3 cx0d;have dz0 := keepc hb3 cz0;have dz1 := keepc hb3 cz1;have cfe := keepf hb3 hgw cf))
     all_goals
      clear cz0 cz1 dz0 dz1 cf cfe c1d c2d cx0d c2e cx0e
      change Exit.inBlock _ _ _ _ (putC g w3 (r * 2) [.int .i64 J,.int .i64 M])
      have hsz3 : w.heap.size ≤ wr.drew.heap.size := hwi
      have hput := (HBd.out.on hb3 (by omega)).put hKB (by decide) HD0.out (r * 2) [.int .i64 J,.int .i64 M] (by
       have h1 : d.length = m * 2 := HDL.out
       have h2 := Nat.mul_le_mul_right 2 (show r + 1 ≤ m from hrm)
       rw [Nat.succ_mul] at h2
       show r * 2 + 2 ≤ d.length
       omega)
      have HKB2 := Lib.hid hput.1
      have HF2 := Lib.hid ((HFd.out.trans (Fr.of_below hb3 (by omega))).trans hput.2)
      have hst := HW.out.step okF HL0.out HD0.out hrm
      rw [mkF_eq HJ HM] at hst
      have HW2 : Hid (Wn kF p id ls q (r + 1) (es.set q ⟨.slice (some ⟨g,0,none⟩) m kx,m,putL d (r * 2) [.int .i64 J,.int .i64 M]⟩)) := Lib.hid hst
      clear hput hst hb3
      generalize (putC g w3 (r * 2) [.int .i64 J,.int .i64 M]) = w4 at HKB2 HF2 ⊢
      go_wp2
      go_roundw
      case rel => exact ⟨r + 1,_,by omega,by go_num,HKB2,HW2,HF2⟩
      case measure => simp [intOf];omega
    ·obtain rfl : r = m := by omega
     have i2 : ¬ (r : Int) < (r : Int) := by omega
     obtain ⟨Ax,kx,rfl,-⟩ := Sr.own_sl ox
     clear ox hd0 hdl o0 hd hel
     have hW2 := Lib.hid (Wn.next okF HW.out HL0.out)
     go_wp2
     go_roundw
     case rel => exact ⟨q + 1,es,J,by omega,HJ,rfl,by go_num,HB,hW2,HF⟩
     case measure => simp [intOf];omega
  ·obtain rfl : q = n := by omega
   have i1 : ¬ (q : Int) < (q : Int) := by omega
   have HV : Hid (I = IN) := Lib.hid (by rw [← HI.out,← HIN.out])
   clear hd o0 hkl
   go_wp2
   go_ret
   have hv := HV.out
   subst hv
   exact ⟨rfl,ks,HB.out,HW.out,HF.out⟩
end Go.Proofs.YtpkmekdpmkfcdaaGreatDoor.Kb
namespace Go.Proofs.YtpkmekdpmkfcdaaGreatDoor.Kb
set_option linter.unusedVariables false
set_option linter.unusedSimpArgs false
open Go.RowKit Go.Proofs.YtpkmekdpmkfcdaaGreatDoor.Wd Go.Proofs.YtpkmekdpmkfcdaaGreatDoor.Px Go.Proofs.YtpkmekdpmkfcdaaGreatDoor.By Go.Proofs.YtpkmekdpmkfcdaaGreatDoor.Pf Go.Proofs.YtpkmekdpmkfcdaaGreatDoor.Sc
open Go.Proofs.YtpkmekdpmkfcdaaGreatDoor.Sr (own_same own_kind own_low CRow ORow OpO Opv Und fltC Lim LimO chC opC nl put14)
set_option maxRecDepth 20000 in
set_option maxHeartbeats 8000000 in
theorem write_O (B K p id : Nat) (ls : List Lst) (w : World) (h : Kst kO B K ls [] w) (hb : Bas K p w) (hKB : K < B) (hBW : B ≤ w.heap.size) (hp : p ≤ 1) (hid : id ≤ 5000000000000) (hn : ls.length ≤ 1000000000000) (hl : ∀ l ∈ ls,l.n ≤ 2000000) :
  Calls Tryz.prog 102 #[.pointer (some ⟨K,0,none⟩),.int .i64 (id : Int)] w fun e w' => e = .returned (.int .i64 ((id + ls.length : Nat) : Int)) ∧ ∃ ks,Kst kO B K ks [] w' ∧ Wn kO p id ls ls.length 0 ks ∧ Fr kO K w w' := by
 obtain ⟨n,hnn⟩ : ∃ n,ls.length = n := ⟨_,rfl⟩
 rw [hnn] at hn ⊢
 obtain ⟨I0,hI0⟩ : ∃ I : Int,(id : Int) = I := ⟨_,rfl⟩
 obtain ⟨IN,hIN⟩ : ∃ I : Int,((id + n : Nat) : Int) = I := ⟨_,rfl⟩
 rw [hI0,hIN]
 have HI0 := Lib.hid hI0
 have HIN := Lib.hid hIN
 have HNN := Lib.hid hnn
 have HL := Lib.hid hl
 have HB0 := Lib.hid hb
 have hKw : K < w.heap.size := by omega
 clear hnn hl hb hI0 hIN
 go_enter Tryz.func102,Tryz.ntmps102
 go_wp2
 go_loopw [1,5] (fun v i wr => ∃ (q : Nat) (ks : List Lst) (I : Int),q ≤ n ∧ Hid (((id + q : Nat) : Int) = I) ∧ v = .int .i64 I ∧ i = .int .i64 (q : Int) ∧ Hid (Kst kO B K ks [] wr) ∧ Hid (Wn kO p id ls q 0 ks) ∧ Hid (Fr kO K w wr)) (fun _ i _ => n - (intOf i).toNat)
 case atStart => exact ⟨0,ls,I0,Nat.zero_le _,HI0,rfl,rfl,Lib.hid h,Lib.hid (Wn.start h.rv id),Lib.hid (Fr.refl _ _ _)⟩
 case round =>
  obtain ⟨q,ks,I,hq,HI,rfl,rfl,HB,HW,HF⟩ := hrel
  clear h
  obtain ⟨v0,v2,hd⟩ := HB.out.hd
  have o0 := hd.o0
  have hkl : ks.length = n := by rw [HW.out.1,HNN.out]
  rw [hkl] at o0
  obtain ⟨A0,k0,rfl,-⟩ := Sr.own_sl o0
  have c2 : wr.cell? ⟨K,47,none⟩ = some (.slice A0 n k0) := hd.c0
  by_cases hlt : q < n
  ·have i1 : (q : Int) < (n : Int) := by omega
   obtain ⟨J,hJ⟩ : ∃ J : Int,((id + q + 1 : Nat) : Int) = J := ⟨_,rfl⟩
   have iw : IntKind.i64.wrap (I + 1) = J := by rw [← HI.out,← hJ,IntWalk.i64_in _ ⟨by omega,by omega⟩];simp
   have HJ := Lib.hid hJ
   obtain ⟨⟨lv,m,ld⟩,hl0⟩ : ∃ l,ls[q]? = some l := ⟨_,List.getElem?_eq_getElem (by rw [HNN.out];exact hlt)⟩
   have hm9 : m ≤ 2000000 := HL.out _ (List.mem_of_getElem? hl0)
   have HL0 := Lib.hid hl0
   clear hl0 o0 hkl hd hJ
   go_wp2
   go_loopw [6] (fun j wr => ∃ (r : Nat) (es : List Lst),r ≤ m ∧ j = .int .i64 (r : Int) ∧ Hid (Kst kO B K es [] wr) ∧ Hid (Wn kO p id ls q r es) ∧ Hid (Fr kO K w wr)) (fun j _ => m - (intOf j).toNat)
   case atStart => exact ⟨0,ks,Nat.zero_le _,rfl,HB,HW,HF⟩
   case round =>
    obtain ⟨r,es,hr,rfl,HB,HW,HF⟩ := hrel
    clear c2
    obtain ⟨v0,v2,hd⟩ := HB.out.hd
    have o0 := hd.o0
    have hel : es.length = n := by rw [HW.out.1,HNN.out]
    rw [hel] at o0
    obtain ⟨g0,k0,rfl,-,-⟩ := o0.form (by omega)
    obtain ⟨d,hd0,hdl⟩ := HW.out.get HL0.out
    have cx0 : wr.cell? ⟨g0,q,none⟩ = some lv := (o0.cellAt q (by omega)).trans (by rw [List.getElem?_map,hd0];rfl)
    have c2 : wr.cell? ⟨K,47,none⟩ = some (.slice (some ⟨g0,0,none⟩) n k0) := hd.c0
    have c1 := (HB0.out.fr HF.out (by decide) emp_O).c1
    have ox : wr.ownsRow B kO.e kO.s lv m d := HB.out.rv q _ hd0
    have hwi : w.heap.size ≤ wr.heap.size := HF.out.size
    by_cases hrm : r < m
    ·have i2 : (r : Int) < (m : Int) := by omega
     obtain ⟨g,kx,rfl,-,-⟩ := ox.form (by omega)
     obtain ⟨z0,cz0⟩ := own_elem ox hrm (i := 0) (by decide)
     replace cz0 : wr.drew.cell? ⟨g,r * 14,none⟩ = some z0 := cz0
     obtain ⟨z1,cz1⟩ := own_elem ox hrm (i := 1) (by decide)
     replace cz1 : wr.drew.cell? ⟨g,r * 14 + 1,none⟩ = some z1 := cz1
     obtain ⟨z2,cz2⟩ := own_elem ox hrm (i := 2) (by decide)
     replace cz2 : wr.drew.cell? ⟨g,r * 14 + 2,none⟩ = some z2 := cz2
     obtain ⟨z3,cz3⟩ := own_elem ox hrm (i := 3) (by decide)
     replace cz3 : wr.drew.cell? ⟨g,r * 14 + 3,none⟩ = some z3 := cz3
     obtain ⟨z4,cz4⟩ := own_elem ox hrm (i := 4) (by decide)
     replace cz4 : wr.drew.cell? ⟨g,r * 14 + 4,none⟩ = some z4 := cz4
     obtain ⟨z5,cz5⟩ := own_elem ox hrm (i := 5) (by decide)
     replace cz5 : wr.drew.cell? ⟨g,r * 14 + 5,none⟩ = some z5 := cz5
     obtain ⟨z6,cz6⟩ := own_elem ox hrm (i := 6) (by decide)
     replace cz6 : wr.drew.cell? ⟨g,r * 14 + 6,none⟩ = some z6 := cz6
     obtain ⟨z7,cz7⟩ := own_elem ox hrm (i := 7) (by decide)
     replace cz7 : wr.drew.cell? ⟨g,r * 14 + 7,none⟩ = some z7 := cz7
     obtain ⟨z8,cz8⟩ := own_elem ox hrm (i := 8) (by decide)
     replace cz8 : wr.drew.cell? ⟨g,r * 14 + 8,none⟩ = some z8 := cz8
     obtain ⟨z9,cz9⟩ := own_elem ox hrm (i := 9) (by decide)
     replace cz9 : wr.drew.cell? ⟨g,r * 14 + 9,none⟩ = some z9 := cz9
     obtain ⟨z10,cz10⟩ := own_elem ox hrm (i := 10) (by decide)
     replace cz10 : wr.drew.cell? ⟨g,r * 14 + 10,none⟩ = some z10 := cz10
     obtain ⟨z11,cz11⟩ := own_elem ox hrm (i := 11) (by decide)
     replace cz11 : wr.drew.cell? ⟨g,r * 14 + 11,none⟩ = some z11 := cz11
     obtain ⟨z12,cz12⟩ := own_elem ox hrm (i := 12) (by decide)
     replace cz12 : wr.drew.cell? ⟨g,r * 14 + 12,none⟩ = some z12 := cz12
     obtain ⟨z13,cz13⟩ := own_elem ox hrm (i := 13) (by decide)
     replace cz13 : wr.drew.cell? ⟨g,r * 14 + 13,none⟩ = some z13 := cz13
     have cf : ∀ j,wr.drew.frozen? ⟨g,j,none⟩ = false := ox.frozenAt
     have hgw : g < wr.drew.heap.size := (ox.lt g rfl).2
     have c1d : wr.drew.cell? ⟨K,1,none⟩ = some (.int .i64 (p : Int)) := c1
     have c2d : wr.drew.cell? ⟨K,47,none⟩ = some (.slice (some ⟨g0,0,none⟩) n k0) := c2
     have cx0d : wr.drew.cell? ⟨g0,q,none⟩ = some (.slice (some ⟨g,0,none⟩) m kx) := cx0
     obtain ⟨M,hM⟩ : ∃ M : Int,((2 * (r) + p : Nat) : Int) = M := ⟨_,rfl⟩
     have HM := Lib.hid hM
     have hid2 : id + q + 1 ≤ 10000000000000 := by omega
     have hr2 : r ≤ 10000000000000 := by omega
     have HD0 := Lib.hid hd0
     have HDL := Lib.hid hdl
     have HBd := Lib.hid (HB.out.on (Below.refl _ _).drew (by omega))
     have HFd := Lib.hid (HF.out.drew)
     clear hM ox hd0 hdl hel o0 hd HB HF
     go_upto_region 8 with fail
     clear c1 c2 cx0
     go_region_law (first
      | (go_simp;go_at_call 195;with_reducible refine (mark_O_as HJ HM _ c1d hp hid2 hr2).mono ?_;rintro e w3 ⟨rfl,hb3⟩;have c2e := keepc hb3 c2d;have cx0e := keepc hb3 cx0d;have dz0 := keepc hb3 cz0;have dz1 := keepc hb3 cz1;have dz2 := keepc hb3 cz2;have dz3 := keepc hb3 cz3;have dz4 := keepc hb3 cz4;have dz5 := keepc hb3 cz5;have dz6 := keepc hb3 cz6;have dz7 := keepc hb3 cz7;have dz8 := keepc hb3 cz8;have dz9 := keepc hb3 cz9;have dz10 := keepc hb3 cz10;have dz11 := keepc hb3 cz11;have dz12 := keepc hb3 cz12;have dz13 := keepc hb3 cz13;have cfe := keepf hb3 hgw cf))
     all_goals
      clear cz0 cz1 cz2 cz3 cz4 cz5 cz6 cz7 cz8 cz9 cz10 cz11 cz12 cz13 dz0 dz1 dz2 dz3 dz4 dz5 dz6 dz7 dz8 dz9 dz10 dz11 dz12 dz13 cf cfe c1d c2d cx0d c2e cx0e
      change Exit.inBlock _ _ _ _ (putC g w3 (r * 14) [.int .i64 J,.int .i64 M,.int .i64 0,.int .i64 0,.int .i64 0,.int .i64 0,.slice none 0 0,.int .i64 0,.int .i64 0,.int .i64 0,.int .i64 0,.slice none 0 0,.slice none 0 0,.slice none 0 0])
      have hsz3 : w.heap.size ≤ wr.drew.heap.size := hwi
      have hput := (HBd.out.on hb3 (by omega)).put hKB (by decide) HD0.out (r * 14) [.int .i64 J,.int .i64 M,.int .i64 0,.int .i64 0,.int .i64 0,.int .i64 0,.slice none 0 0,.int .i64 0,.int .i64 0,.int .i64 0,.int .i64 0,.slice none 0 0,.slice none 0 0,.slice none 0 0] (by
       have h1 : d.length = m * 14 := HDL.out
       have h2 := Nat.mul_le_mul_right 14 (show r + 1 ≤ m from hrm)
       rw [Nat.succ_mul] at h2
       show r * 14 + 14 ≤ d.length
       omega)
      have HKB2 := Lib.hid hput.1
      have HF2 := Lib.hid ((HFd.out.trans (Fr.of_below hb3 (by omega))).trans hput.2)
      have hst := HW.out.step okO HL0.out HD0.out hrm
      rw [mkO_eq HJ HM] at hst
      have HW2 : Hid (Wn kO p id ls q (r + 1) (es.set q ⟨.slice (some ⟨g,0,none⟩) m kx,m,putL d (r * 14) [.int .i64 J,.int .i64 M,.int .i64 0,.int .i64 0,.int .i64 0,.int .i64 0,.slice none 0 0,.int .i64 0,.int .i64 0,.int .i64 0,.int .i64 0,.slice none 0 0,.slice none 0 0,.slice none 0 0]⟩)) := Lib.hid hst
      clear hput hst hb3
      generalize (putC g w3 (r * 14) [.int .i64 J,.int .i64 M,.int .i64 0,.int .i64 0,.int .i64 0,.int .i64 0,.slice none 0 0,.int .i64 0,.int .i64 0,.int .i64 0,.int .i64 0,.slice none 0 0,.slice none 0 0,.slice none 0 0]) = w4 at HKB2 HF2 ⊢
      go_wp2
      go_roundw
      case rel => exact ⟨r + 1,_,by omega,by go_num,HKB2,HW2,HF2⟩
      case measure => simp [intOf];omega
    ·obtain rfl : r = m := by omega
     have i2 : ¬ (r : Int) < (r : Int) := by omega
     obtain ⟨Ax,kx,rfl,-⟩ := Sr.own_sl ox
     clear ox hd0 hdl o0 hd hel
     have hW2 := Lib.hid (Wn.next okO HW.out HL0.out)
     go_wp2
     go_roundw
     case rel => exact ⟨q + 1,es,J,by omega,HJ,rfl,by go_num,HB,hW2,HF⟩
     case measure => simp [intOf];omega
  ·obtain rfl : q = n := by omega
   have i1 : ¬ (q : Int) < (q : Int) := by omega
   have HV : Hid (I = IN) := Lib.hid (by rw [← HI.out,← HIN.out])
   clear hd o0 hkl
   go_wp2
   go_ret
   have hv := HV.out
   subst hv
   exact ⟨rfl,ks,HB.out,HW.out,HF.out⟩
end Go.Proofs.YtpkmekdpmkfcdaaGreatDoor.Kb
