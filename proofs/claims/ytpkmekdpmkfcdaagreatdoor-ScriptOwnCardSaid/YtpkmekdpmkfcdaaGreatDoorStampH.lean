/- Contract: a stamp out of its text, by the program. -/
import Derived.Test.YtpkmekdpmkfcdaaGreatDoorStampG
import Derived.Lib.OthersKept
namespace Go.Proofs.YtpkmekdpmkfcdaaGreatDoor.St
open Go.RowKit Go.Proofs.YtpkmekdpmkfcdaaGreatDoor.Wd Go.Proofs.YtpkmekdpmkfcdaaGreatDoor.Pl Go.Proofs.YtpkmekdpmkfcdaaGreatDoor.En Go.Proofs.YtpkmekdpmkfcdaaGreatDoor.By
theorem get_at {t : ByteArray} {pos : Nat} (h : pos < t.size) : t.data.toList[pos]? = some (t[pos]'h) := by
 rw [List.getElem?_eq_getElem (by simpa using h)]
 rfl
def zst : Obj := .cells #[.int .i64 0,.int .i64 0] 102
/-- the scan's world: the result's block, the iterator behind it -/
structure It (w : World) (t : ByteArray) (pos : Nat) (wr : World) : Prop where
 it : wr.heap[w.heap.size + 1]? = some (.stringIter t pos)
 bl : Below (w.heap.size + 1) (w.alloc zst) wr
theorem It.facts {w wr : World} {t : ByteArray} {pos : Nat} (h : It w t pos wr) :
  wr.cell? ⟨w.heap.size,0,none⟩ = some (.int .i64 0) ∧ wr.cell? ⟨w.heap.size,1,none⟩ = some (.int .i64 0) ∧ (∀ o,wr.frozen? ⟨w.heap.size,o,none⟩ = false) ∧ w.heap.size + 1 < wr.heap.size ∧ Below w.heap.size w wr := by
 have hlt := (Array.getElem?_eq_some_iff.1 h.it).1
 refine ⟨(h.bl.cell (p := ⟨w.heap.size,0,none⟩) (by simp)).trans ?_,(h.bl.cell (p := ⟨w.heap.size,1,none⟩) (by simp)).trans ?_,fun o => (h.bl.frozen (p := ⟨w.heap.size,o,none⟩) (by simp)).trans ?_,hlt,((Below.refl _ w).alloc (Nat.le_refl _) _).trans (h.bl.mono (by omega))⟩
 ·rw [zst,World.cell?_alloc_at _ _ _ _ rfl];rfl
 ·rw [zst,World.cell?_alloc_at _ _ _ _ rfl];rfl
 ·rw [zst,World.frozen?_alloc_at _ _ _ _ rfl]
theorem It.next {w wr : World} {t : ByteArray} {pos : Nat} (h : It w t pos wr) (pos' : Nat) : It w t pos' (wr.iterAt (w.heap.size + 1) t pos') :=
 ⟨Lib.iterAt_heap _ _ _ _ _ h.it,Lib.below_iterAt h.bl (Nat.le_refl _) _ _⟩
set_option maxHeartbeats 2000000 in
theorem parse_any (t : ByteArray) (w : World) (ht : t.size ≤ 140737488355328) (hE : Env w) :
  Calls Tryz.prog 164 #[.string t] w fun e w' => e = .returned (ofPrs (prs t.data.toList)) ∧ Below w.heap.size w w' := by
 go_enter Tryz.func164,Tryz.ntmps164
 go_wp2
 go_loopw [4] (fun v wr => ∃ (pos : Nat) (p : Int),pos ≤ t.size ∧ v = .int .i64 p ∧ It w t pos wr ∧ Hid (Scan t.data.toList pos p)) (fun _ wr => t.size - wr.iterPos (w.heap.size + 1))
 case atStart =>
  refine ⟨0,-1,Nat.zero_le _,rfl,⟨?_,?_⟩,.inl ⟨rfl,fun j c hj => by omega⟩⟩
  ·have := World.iter_heap (w.alloc zst) t 0
   rwa [World.size_alloc] at this
  ·exact (Below.refl _ _).alloc (by simp) _
 case round =>
  obtain ⟨pos,p,hpos,rfl,hI,HS⟩ := hrel
  obtain ⟨hp1,hp2⟩ := HS.out.lo
  obtain ⟨c0,c1,f0,hz,hbl⟩ := hI.facts
  by_cases hlt : pos < t.size
  ·by_cases ha : (t[pos]'hlt).toNat < 128
   ·have hnx : ∀ ty,(Instr.next (.pointer (some ⟨w.heap.size + 1,0,none⟩)) true ty).run Tryz.prog wr = .ok (.tuple #[.bool true,.int .i64 pos,.int .i32 (t[pos]'hlt).toNat]) (wr.iterAt (w.heap.size + 1) t (pos + 1)) := fun ty => Lib.run_next_ascii_at wr _ t pos ty hI.it hlt ha
    have hI2 := hI.next (pos + 1)
    have hat := get_at hlt
    obtain ⟨x,hx⟩ : ∃ x : Int,x = ((t[pos]'hlt).toNat : Int) := ⟨_,rfl⟩
    rw [← hx] at hnx
    by_cases hd : isDig (t[pos]'hlt) = true
    ·have hs := HS.out.dig hat hd
     have HSN := Lib.hid hs
     unfold isDig at hd
     simp only [decide_eq_true_eq] at hd
     have x0 : 48 ≤ x := by omega
     have x1 : x ≤ 57 := by omega
     clear hs hx hat hd
     go_wp2
     go_roundw
     case rel => exact ⟨pos + 1,p,by omega,rfl,hI2,HSN⟩
     case measure => rw [iterPos_of hI2.it,iterPos_of hI.it];omega
    ·by_cases h46 : (t[pos]'hlt) = 46 ∧ p < 0
     ·have hs := HS.out.point h46.2 (by rw [hat,h46.1])
      have HSN := Lib.hid hs
      have xe : x = 46 := by rw [hx,h46.1];rfl
      have hpn := h46.2
      clear hs hat hd h46 hx
      subst xe
      go_wp2
      go_roundw
      case rel => exact ⟨pos + 1,pos,by omega,rfl,hI2,HSN⟩
      case measure => rw [iterPos_of hI2.it,iterPos_of hI.it];omega
     ·have hnone := HS.out.bad hat (by simpa using hd) (fun h1 h2 => h46 ⟨h1,h2⟩)
      have HN := Lib.hid hnone
      clear c0 c1 f0 hz hbl
      obtain ⟨c0,c1,f0,hz,hbl⟩ := hI2.facts
      have hxd : x < 48 ∨ 57 < x := by
       unfold isDig at hd
       simp only [decide_eq_true_eq] at hd
       omega
      have hx46 : x = 46 → ¬ p < 0 := by
       intro e h
       exact h46 ⟨UInt8.toNat_inj.1 (by show _ = 46;omega),h⟩
      clear hnone hx hat hd h46
      by_cases xe : x = 46
      ·have hpn := hx46 xe
       subst xe
       clear hx46 hxd
       go_wp2
       exact bodyPost_ret (v := .tuple #[.agg #[.int .i64 0,.int .i64 0],.int .i64 60]) (by simp [results,Tryz.results164,go_sem, *]) rfl ⟨by rw [HN.out];rfl,(hbl.setCell (Nat.le_refl _) _).setCell (Nat.le_refl _) _⟩
      ·have xe2 : (x == 46) = false := by simpa using xe
       clear hx46 xe
       rcases hxd with hxl | hxl
       ·go_wp2
        exact bodyPost_ret (v := .tuple #[.agg #[.int .i64 0,.int .i64 0],.int .i64 60]) (by simp [results,Tryz.results164,go_sem, *]) rfl ⟨by rw [HN.out];rfl,(hbl.setCell (Nat.le_refl _) _).setCell (Nat.le_refl _) _⟩
       ·go_wp2
        exact bodyPost_ret (v := .tuple #[.agg #[.int .i64 0,.int .i64 0],.int .i64 60]) (by simp [results,Tryz.results164,go_sem, *]) rfl ⟨by rw [HN.out];rfl,(hbl.setCell (Nat.le_refl _) _).setCell (Nat.le_refl _) _⟩
   ·have hnx : ∀ ty,(Instr.next (.pointer (some ⟨w.heap.size + 1,0,none⟩)) true ty).run Tryz.prog wr = .ok (.tuple #[.bool true,.int .i64 pos,.int .i32 (Utf8.decode t pos).1]) (wr.iterAt (w.heap.size + 1) t (pos + (Utf8.decode t pos).2)) := fun ty => Lib.run_next_any_at wr _ t pos ty hI.it hlt
    have hI2 := hI.next (pos + (Utf8.decode t pos).2)
    have hhi := (decode_high t pos hlt (by omega)).1
    obtain ⟨x,hx⟩ : ∃ x : Int,x = ((Utf8.decode t pos).1 : Int) := ⟨_,rfl⟩
    have hx1 : 128 ≤ x := by omega
    rw [← hx] at hnx
    have hnone : prs t.data.toList = none := HS.out.bad (get_at hlt) (by unfold isDig;simp;omega) (fun h => by rw [h] at ha;exact absurd (show (46 : UInt8).toNat < 128 by decide) ha)
    have HN := Lib.hid hnone
    have xe2 : (x == 46) = false := by simp;omega
    clear c0 c1 f0 hz hbl hnone hhi hx ha
    obtain ⟨c0,c1,f0,hz,hbl⟩ := hI2.facts
    go_wp2
    exact bodyPost_ret (v := .tuple #[.agg #[.int .i64 0,.int .i64 0],.int .i64 60]) (by simp [results,Tryz.results164,go_sem, *]) rfl ⟨by rw [HN.out];rfl,(hbl.setCell (Nat.le_refl _) _).setCell (Nat.le_refl _) _⟩
  ·have hnx : ∀ ty,(Instr.next (.pointer (some ⟨w.heap.size + 1,0,none⟩)) true ty).run Tryz.prog wr = .ok (.tuple #[.bool false]) wr := fun ty => Lib.run_next_end_at wr _ t pos ty hI.it hlt
   obtain rfl : pos = t.size := by omega
   have hls : t.data.toList.length = t.size := by simp
   by_cases hpn : p < 0
   ·have hnone := (hls ▸ HS.out : Scan t.data.toList t.data.toList.length p).none_ hpn
    have HN := Lib.hid hnone
    clear hnone hls
    go_wp2
    exact bodyPost_ret (v := .tuple #[.agg #[.int .i64 0,.int .i64 0],.int .i64 60]) (by simp [results,Tryz.results164,go_sem, *]) rfl ⟨by rw [HN.out];rfl,(hbl.setCell (Nat.le_refl _) _).setCell (Nat.le_refl _) _⟩
   ·obtain ⟨q,rfl⟩ : ∃ q : Nat,p = q := ⟨p.toNat,by omega⟩
    obtain ⟨hq,hcut,hdig⟩ := (hls ▸ HS.out : Scan t.data.toList t.data.toList.length q).cut
    have HC := Lib.hid hcut
    have HD := Lib.hid hdig
    clear hcut hdig hls
    have hqs : (q : Int) < (t.size : Int) := by omega
    have hqn : (q : Int) ≤ 140737488355328 := by omega
    have e1 : (t.extract 0 q).data.toList = t.data.toList.take q := by rw [Lib.extract_data];simp
    have e2 : (t.extract (q + 1) t.size).data.toList = t.data.toList.drop (q + 1) := by
     rw [Lib.extract_data,List.take_of_length_le (by simp)]
    have z1 : (t.extract 0 q).size ≤ 140737488355328 := by rw [ByteArray.size_extract];omega
    have z2 : (t.extract (q + 1) t.size).size ≤ 140737488355328 := by rw [ByteArray.size_extract];omega
    have E1 := Lib.hid e1
    have E2 := Lib.hid e2
    clear e1 e2
    have hEr := hE.on hbl
    go_wp2_with fail
    refine (atoi_any _ _ z1 hEr).mono ?_
    rintro e w2 ⟨hres1,hb2⟩
    have hbl2 : Below w.heap.size w w2 := hbl.trans (hb2.mono hbl.size)
    have hE2 := hEr.on hb2
    have d0 := keepc hb2 c0
    have d1 := keepc hb2 c1
    have df := keepf hb2 (by omega) f0
    have hz2 : w.heap.size + 1 < w2.heap.size := Nat.lt_of_lt_of_le hz hb2.size
    clear hnx hb2 hEr c0 c1 f0 hbl hz hI
    rcases hres1 with ⟨a,ha,rfl⟩ | ⟨hno,v,N,hv1,hv2,rfl⟩
    ·have hab := Lib.atoiAll_bounds ha
     rw [E1.out] at ha
     have HA := Lib.hid ha
     clear ha
     go_wp2_with fail
     refine (atoi_any _ _ z2 hE2).mono ?_
     rintro e w3 ⟨hres2,hb3⟩
     have hbl3 : Below w.heap.size w w3 := hbl2.trans (hb3.mono hbl2.size)
     have hE3 := hE2.on hb3
     have g0 := keepc hb3 d0
     have g1 := keepc hb3 d1
     have gf := keepf hb3 (by omega) df
     have hz3 : w.heap.size < w3.heap.size := by have := hb3.size;omega
     clear hb3 hE2 d0 d1 df hbl2 hz2
     rcases hres2 with ⟨b,hb,rfl⟩ | ⟨hno,v,N,hv1,hv2,rfl⟩
     ·have hbb := Lib.atoiAll_bounds hb
      rw [E2.out] at hb
      have HB := Lib.hid hb
      clear hb
      have hE4 := hE3.on (((Below.refl _ w3).alloc (Nat.le_refl _) (.cells #[.int .i64 a,.int .i64 b] 102)))
      cases hvv : vld a b with
      | false =>
       have hnone : prs t.data.toList = none := by
        rw [HC.out]
        refine prs_no HD.out HA.out HB.out ?_
        rw [prt_not a b hvv];simp
       have HN := Lib.hid hnone
       clear hnone
       have hte : (([] : List UInt8) == t.toList) = false := by
        rw [Lib.toList_data,HC.out]
        cases t.data.toList.take q <;> rfl
       have HVV := Lib.hid hvv
       clear hvv
       go_wp2_with fail
       refine (print_no a b _ (by omega) HVV.out).mono ?_
       rintro e w4 ⟨rfl,hb4⟩
       have k0 := keepc hb4 (b := w.heap.size) (o := 0) (v := .int .i64 0) (by go_simp)
       have k1 := keepc hb4 (b := w.heap.size) (o := 1) (v := .int .i64 0) (by go_simp)
       have kf := keepf hb4 (b := w.heap.size) (by simp;omega) (fun o => by go_simp)
       have hbl4 : Below w.heap.size w w4 := (hbl3.alloc hbl3.size _).trans (hb4.mono (by simp;omega))
       have hz4 : w.heap.size < w4.heap.size := by have := hb4.size;simp at this;omega
       clear hb4 g0 g1 gf hz3
       go_wp2
       exact bodyPost_ret (v := .tuple #[.agg #[.int .i64 0,.int .i64 0],.int .i64 60]) (by simp [results,Tryz.results164,go_sem, *]) rfl ⟨by rw [HN.out];rfl,(hbl4.setCell (Nat.le_refl _) _).setCell (Nat.le_refl _) _⟩
      | true =>
       have hv0 := (vld_iff a b).1 hvv
       by_cases hpt : prt a b = t.data.toList
       ·have hsome : prs t.data.toList = some (a,b) := prs_yes (by omega) (by rw [HC.out];simp) hpt
        have HN := Lib.hid hsome
        clear hsome
        have hte : (prt a b == t.toList) = true := by rw [Lib.toList_data,hpt];simp
        clear hpt hvv
        go_wp2_with fail
        refine (print_yes a b _ (by omega) (by omega) (by omega) (by omega) hE4).mono ?_
        rintro e w4 ⟨rfl,hb4⟩
        have k0 := keepc hb4 (b := w.heap.size) (o := 0) (v := .int .i64 0) (by go_simp)
        have k1 := keepc hb4 (b := w.heap.size) (o := 1) (v := .int .i64 0) (by go_simp)
        have kf := keepf hb4 (b := w.heap.size) (by simp;omega) (fun o => by go_simp)
        have hbl4 : Below w.heap.size w w4 := (hbl3.alloc hbl3.size _).trans (hb4.mono (by simp;omega))
        have hz4 : w.heap.size < w4.heap.size := by have := hb4.size;simp at this;omega
        have k2 := keepc hb4 (b := w3.heap.size) (o := 0) (v := .int .i64 a) (by go_simp)
        have k3 := keepc hb4 (b := w3.heap.size) (o := 1) (v := .int .i64 b) (by go_simp)
        clear hb4 g0 g1 gf hz3
        go_wp2
        exact bodyPost_ret (v := .tuple #[.agg #[.int .i64 a,.int .i64 b],.int .i64 0]) (by simp [results,Tryz.results164,go_sem, *]) rfl ⟨by rw [HN.out];rfl,(hbl4.setCell (Nat.le_refl _) _).setCell (Nat.le_refl _) _⟩
       ·have hnone : prs t.data.toList = none := by
         rw [HC.out]
         exact prs_no HD.out HA.out HB.out (by rw [← HC.out];exact hpt)
        have HN := Lib.hid hnone
        clear hnone
        have hte : (prt a b == t.toList) = false := by rw [Lib.toList_data];simpa using hpt
        clear hpt hvv
        go_wp2_with fail
        refine (print_yes a b _ (by omega) (by omega) (by omega) (by omega) hE4).mono ?_
        rintro e w4 ⟨rfl,hb4⟩
        have k0 := keepc hb4 (b := w.heap.size) (o := 0) (v := .int .i64 0) (by go_simp)
        have k1 := keepc hb4 (b := w.heap.size) (o := 1) (v := .int .i64 0) (by go_simp)
        have kf := keepf hb4 (b := w.heap.size) (by simp;omega) (fun o => by go_simp)
        have hbl4 : Below w.heap.size w w4 := (hbl3.alloc hbl3.size _).trans (hb4.mono (by simp;omega))
        have hz4 : w.heap.size < w4.heap.size := by have := hb4.size;simp at this;omega
        clear hb4 g0 g1 gf hz3
        go_wp2
        exact bodyPost_ret (v := .tuple #[.agg #[.int .i64 0,.int .i64 0],.int .i64 60]) (by simp [results,Tryz.results164,go_sem, *]) rfl ⟨by rw [HN.out];rfl,(hbl4.setCell (Nat.le_refl _) _).setCell (Nat.le_refl _) _⟩
     ·have hnone : prs t.data.toList = none := by
       rw [HC.out]
       exact prs_err2 HD.out (by rw [← E2.out];exact hno)
      have HN := Lib.hid hnone
      clear hnone
      go_wp2
      exact bodyPost_ret (v := .tuple #[.agg #[.int .i64 0,.int .i64 0],.int .i64 60]) (by simp [results,Tryz.results164,go_sem, *]) rfl ⟨by rw [HN.out];rfl,((hbl3.setCell (Nat.le_refl _) _).setCell (Nat.le_refl _) _).alloc (by simp;omega) _⟩
    ·have hnone : prs t.data.toList = none := by
      rw [HC.out]
      exact prs_err1 HD.out (by rw [← E1.out];exact hno)
     have HN := Lib.hid hnone
     clear hnone
     go_wp2_with fail
     refine (atoi_any _ _ z2 hE2).mono ?_
     rintro e w3 ⟨hres2,hb3⟩
     have hbl3 : Below w.heap.size w w3 := hbl2.trans (hb3.mono hbl2.size)
     have g0 := keepc hb3 d0
     have g1 := keepc hb3 d1
     have gf := keepf hb3 (by omega) df
     have hz3 : w.heap.size < w3.heap.size := by have := hb3.size;omega
     clear hb3 hE2 d0 d1 df hbl2 hz2
     rcases hres2 with ⟨b,hb,rfl⟩ | ⟨hno,v,N,hv1,hv2,rfl⟩
     all_goals
      go_wp2
      exact bodyPost_ret (v := .tuple #[.agg #[.int .i64 0,.int .i64 0],.int .i64 60]) (by simp [results,Tryz.results164,go_sem, *]) rfl ⟨by rw [HN.out];rfl,((hbl3.setCell (Nat.le_refl _) _).setCell (Nat.le_refl _) _).alloc (by simp;omega) _⟩
end Go.Proofs.YtpkmekdpmkfcdaaGreatDoor.St
