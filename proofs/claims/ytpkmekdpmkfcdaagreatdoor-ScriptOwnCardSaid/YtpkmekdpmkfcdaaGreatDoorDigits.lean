/- Contract: the reference's digits of a number. -/
import Derived.Test.YtpkmekdpmkfcdaaGreatDoorStampA
import Derived.Test.YtpkmekdpmkfcdaaGreatDoorBytesA
import Derived.Test.YtpkmekdpmkfcdaaGreatDoorStampF
import Derived.Laws.IdiomStrings
import Derived.BigRegion
namespace Go.Proofs.YtpkmekdpmkfcdaaGreatDoor.St
open Go.RowKit Go.Proofs.YtpkmekdpmkfcdaaGreatDoor.Wd Go.Proofs.YtpkmekdpmkfcdaaGreatDoor.Pl Go.Proofs.YtpkmekdpmkfcdaaGreatDoor.En Go.Proofs.YtpkmekdpmkfcdaaGreatDoor.By
/-- the length in a slot that holds a slice -/
def lenOf : Value → Nat | .slice _ n _ => n | _ => 0
theorem own_slice {w : World} {base : Nat} {e : TypeId} {n : Nat} {v : Value} {xs : List Value} (h : w.ownsRow base e 1 v n xs) : ∃ A c,v = .slice A n c := by
 rcases h.2 with ⟨rfl,rfl⟩ | ⟨g,cap,_,rfl,_⟩
 ·exact ⟨_,_,rfl⟩
 ·exact ⟨_,_,rfl⟩
theorem dg_len (n k : Nat) (hk : 1 ≤ k ∨ 1 ≤ n) (hn : n ≤ 9223372036854775807) (h9 : k ≤ 9) : (dg n k).length ≤ 19 ∧ 1 ≤ (dg n k).length := by
 rw [dg_pad n k hk]
 have h := decDigits_len_le 19 n (by omega) (by omega)
 have h2 : 0 < (Lib.decDigits n).length := List.length_pos_iff.2 (decDigits_ne n)
 unfold padTo
 simp
 omega
/-- what is still to come, and what has come (last digit first) -/
def Dg (N K m : Nat) (b : List UInt8) : Prop := dg N K = dg m (K - b.length) ++ b.reverse
theorem Dg.step {N K m : Nat} {b : List UInt8} (h : Dg N K m b) (hm : 0 < m ∨ b.length < K) : Dg N K (m / 10) (b ++ [UInt8.ofNat (48 + m % 10)]) := by
 unfold Dg at *
 rw [h,dg_step m (K - b.length) (by omega),List.length_append,List.length_singleton,List.reverse_append,Nat.sub_sub]
 simp
theorem Dg.done {N K : Nat} {b : List UInt8} (h : Dg N K 0 b) (hb : K ≤ b.length) : dg N K = b.reverse := by
 unfold Dg at h
 rw [h,show K - b.length = 0 by omega,dg_zero,List.nil_append]
theorem Dg.le {N K m : Nat} {b : List UInt8} (h : Dg N K m b) : b.length ≤ (dg N K).length := by
 unfold Dg at h
 rw [h];simp
theorem cel_dig (m : Nat) : cel (UInt8.ofNat (48 + m % 10)) = .int .u8 (48 + (m : Int) % 10) := by
 unfold cel
 rw [UInt8.toNat_ofNat',Nat.mod_eq_of_lt (by omega)]
 congr 1
theorem snoc_cel (b : List UInt8) (c : UInt8) : (b ++ [c]).map cel = b.map cel ++ [cel c] := by simp
/-- the list b, its first k and its last k places exchanged -/
def Rv (b : List UInt8) (k : Nat) (cur : List UInt8) : Prop := cur.length = b.length ∧ ∀ j,j < b.length → cur[j]? = if j < k ∨ b.length - k ≤ j then b[b.length - 1 - j]? else b[j]?
theorem Rv.start (b : List UInt8) : Rv b 0 b := ⟨rfl,fun j hj => by rw [if_neg (by omega)]⟩
theorem Rv.step {b cur : List UInt8} {k jj : Nat} (h : Rv b k cur) (hj : jj + k + 1 = b.length) (hk : k < jj) (h1 : k < cur.length) (h2 : jj < cur.length) : Rv b (k + 1) ((cur.set k cur[jj]).set jj cur[k]) := by
 obtain ⟨hl,hc⟩ := h
 refine ⟨by simp [hl],fun j hjl => ?_⟩
 have e1 : cur[jj]? = some cur[jj] := List.getElem?_eq_getElem h2
 have e2 : cur[k]? = some cur[k] := List.getElem?_eq_getElem h1
 have f1 := hc jj (by omega)
 have f2 := hc k (by omega)
 rw [if_neg (by omega)] at f1 f2
 rw [e1] at f1
 rw [e2] at f2
 rw [List.getElem?_set]
 by_cases hj1 : jj = j
 ·subst hj1
  rw [if_pos rfl,if_pos (by simpa using h2),if_pos (by omega),f2]
  congr 1;omega
 ·rw [if_neg hj1,List.getElem?_set]
  by_cases hj2 : k = j
  ·subst hj2
   rw [if_pos rfl,if_pos h1,if_pos (by omega),f1]
   congr 1;omega
  ·rw [if_neg hj2,hc j hjl]
   by_cases hc1 : j < k ∨ b.length - k ≤ j
   ·rw [if_pos hc1,if_pos (by omega)]
   ·rw [if_neg hc1,if_neg (by omega)]
theorem Rv.done {b cur : List UInt8} {k jj : Nat} (h : Rv b k cur) (hj : jj + k + 1 = b.length) (hk : ¬ k < jj) : cur = b.reverse := by
 obtain ⟨hl,hc⟩ := h
 apply List.ext_getElem?
 intro j
 by_cases hjl : j < b.length
 ·rw [hc j hjl,List.getElem?_reverse hjl]
  split
  ·rfl
  ·congr 1;omega
 ·rw [List.getElem?_eq_none (by omega),List.getElem?_eq_none (by simp;omega)]
theorem set_cels (cur : List UInt8) (k jj : Nat) (h1 : k < cur.length) (h2 : jj < cur.length) :
  ((cur.map cel).set k (cel cur[jj])).set jj (cel cur[k]) = ((cur.set k cur[jj]).set jj cur[k]).map cel := by
 rw [List.map_set,List.map_set]
set_option maxHeartbeats 1000000 in
theorem digits_any (N K : Nat) (w : World) (hk : 1 ≤ K ∨ 1 ≤ N) (hn : N ≤ 9223372036854775807) (h9 : K ≤ 9) :
  Calls Tryz.prog 272 #[.int .i64 N,.int .i64 K] w fun e w' => e = .returned (.string ⟨(dg N K).toArray⟩) ∧ Below w.heap.size w w' := by
 obtain ⟨i0,hi,hz0,hz1,hz2⟩ := info_parts Tryz.infoB
 have hlen := dg_len N K hk hn h9
 have hN : (N : Int) ≤ 9223372036854775807 := by omega
 go_enter Tryz.func272,Tryz.ntmps272
 go_wp2
 go_loopw [0,5] (fun n v wr => ∃ (m : Nat) (b : List UInt8),n = .int .i64 m ∧ m ≤ N ∧ wr.ownsRow w.heap.size 5 1 v b.length (b.map cel) ∧ Below w.heap.size w wr ∧ Hid (Dg N K m b)) (fun n v _ => (intOf n).toNat + (K - lenOf v))
 case atStart => exact ⟨N,[],rfl,Nat.le_refl _,World.ownsRow_nil _ _ _ _,Below.refl _ _,by unfold Hid Dg;simp⟩
 case round =>
  obtain ⟨m,b,rfl,hm,hown,hbl,HD⟩ := hrel
  obtain ⟨A,c,rfl⟩ := own_slice hown
  have hle := HD.out.le
  by_cases hgo : 0 < m ∨ b.length < K
  ·have hst := HD.out.step hgo
   have HS := Lib.hid hst
   clear hst
   by_cases hm0 : 0 < m
   ·have hmI : (0 : Int) < (m : Int) := by omega
    have hmJ : (m : Int) ≤ 9223372036854775807 := by omega
    go_wp2_with (at_builtin;refine wpList_append_own _ rfl _ _ 85 rfl w.heap.size 5 i0 (.int .u8 0) 1 1 Tryz.underlying85 hi hz0 hz1 hz2 rfl (by decide) _ _ _ rfl (hown.alloc _) ⟨wr.heap.size,0,none⟩ 1 1 [_] rfl rfl (cell_one_new _ _ _) ?c2 ?c3 ?c4 ?c5 ?_)
    case c2 => intro u hu;simp at hu;subst hu;rfl
    case c3 => unfold maxLen;omega
    case c4 => omega
    case c5 => have := hbl.size;simp;omega
    intro v' w2 hown' hgrow _
    obtain ⟨A',c',rfl⟩ := own_slice hown'
    go_wp2
    go_roundw
    case rel =>
     refine ⟨m / 10,b ++ [UInt8.ofNat (48 + m % 10)],by go_num,by omega,?_,?_,HS.out⟩
     ·rw [snoc_cel,cel_dig,List.length_append,List.length_singleton];exact hown'
     ·exact (hbl.alloc hbl.size _).grown hgrow (by have := hbl.size;simp;omega) (fun j hj => (hown.lt j hj).1)
    case measure => simp [intOf,lenOf];omega
   ·obtain rfl : m = 0 := by omega
    have hbK : (b.length : Int) < (K : Int) := by omega
    go_wp2_with (at_builtin;refine wpList_append_own _ rfl _ _ 85 rfl w.heap.size 5 i0 (.int .u8 0) 1 1 Tryz.underlying85 hi hz0 hz1 hz2 rfl (by decide) _ _ _ rfl (hown.alloc _) ⟨wr.heap.size,0,none⟩ 1 1 [_] rfl rfl (cell_one_new _ _ _) ?c2 ?c3 ?c4 ?c5 ?_)
    case c2 => intro u hu;simp at hu;subst hu;rfl
    case c3 => unfold maxLen;omega
    case c4 => omega
    case c5 => have := hbl.size;simp;omega
    intro v' w2 hown' hgrow _
    obtain ⟨A',c',rfl⟩ := own_slice hown'
    go_wp2
    go_roundw
    case rel =>
     refine ⟨0,b ++ [UInt8.ofNat (48 + 0 % 10)],by go_num,by omega,?_,?_,HS.out⟩
     ·rw [snoc_cel,cel_dig,List.length_append,List.length_singleton];exact hown'
     ·exact (hbl.alloc hbl.size _).grown hgrow (by have := hbl.size;simp;omega) (fun j hj => (hown.lt j hj).1)
    case measure => simp [intOf,lenOf];omega
  ·have hm0 : m = 0 := by omega
   subst hm0
   have hbK : ¬ (b.length : Int) < (K : Int) := by omega
   have hd := HD.out.done (by omega)
   have hb1 : 1 ≤ b.length := by have := hlen.2;rw [hd,List.length_reverse] at this;exact this
   have HDD := Lib.hid hd
   clear hd
   obtain ⟨g,cap,hA,hgb,hgl⟩ := hown.form (by omega)
   obtain ⟨rfl,rfl⟩ : A = some ⟨g,0,none⟩ ∧ c = cap := by injection hA with h1 _ h2;exact ⟨h1,h2⟩
   clear hA
   have hbI : (1 : Int) ≤ (b.length : Int) := by omega
   have hbJ : (b.length : Int) ≤ 19 := by omega
   go_wp2
   obtain ⟨wo,rfl⟩ : ∃ wo : World,wo = wr := ⟨_,rfl⟩
   go_loopw [6,7] (fun i j wr => ∃ (k jj : Nat) (cur : List UInt8),i = .int .i64 k ∧ j = .int .i64 jj ∧ Hid (jj + k + 1 = b.length) ∧ wr.ownsRow w.heap.size 5 1 (.slice (some ⟨g,0,none⟩) b.length c) b.length (cur.map cel) ∧ Below w.heap.size w wr ∧ Hid (Rv b k cur)) (fun i j _ => (intOf j).toNat)
   case atStart => exact ⟨0,b.length - 1,b,rfl,congrArg (Value.int .i64) (by omega),by unfold Hid;omega,hown,hbl,Rv.start b⟩
   case round =>
    obtain ⟨k,jj,cur,rfl,rfl,HJ,hown,hbl,HR⟩ := hrel
    have hcl : cur.length = b.length := HR.out.1
    have HCL := Lib.hid hcl
    clear hcl
    by_cases hkj : k < jj
    ·have h1 : k < cur.length := by have := HCL.out;have := HJ.out;omega
     have h2 : jj < cur.length := by have := HCL.out;have := HJ.out;omega
     have ck := hown.cellAt k (by have := HCL.out;omega)
     have cj := hown.cellAt jj (by have := HCL.out;omega)
     rw [List.getElem?_map,List.getElem?_eq_getElem h1] at ck
     rw [List.getElem?_map,List.getElem?_eq_getElem h2] at cj
     simp only [Option.map_some] at ck cj
     have fk := hown.frozenAt k
     have fj := hown.frozenAt jj
     have hst := ((hown.stored k (cel cur[jj])).1).stored jj (cel cur[k])
     have hstep := HR.out.step HJ.out hkj h1 h2
     rw [set_cels cur k jj h1 h2] at hst
     obtain ⟨hst1,hst2⟩ := hst
     have hg1 := (hown.stored k (cel cur[jj])).2
     obtain ⟨x,hx⟩ : ∃ x : Int,cel cur[k] = .int .u8 x := ⟨_,rfl⟩
     obtain ⟨y,hy⟩ : ∃ y : Int,cel cur[jj] = .int .u8 y := ⟨_,rfl⟩
     rw [hx] at ck hst1 hst2
     rw [hy] at cj hst1 hst2 hg1
     have hbl2 : Below w.heap.size w ((wr.setCell ⟨g,k,none⟩ (.int .u8 y)).setCell ⟨g,jj,none⟩ (.int .u8 x)) := (hbl.setCell (p := ⟨g,k,none⟩) hgb _).setCell (p := ⟨g,jj,none⟩) hgb _
     have HB2 := Lib.hid hbl2
     have HS2 := Lib.hid hst1
     have HST := Lib.hid hstep
     clear hx hy hst1 hst2 hg1 hbl2 hstep
     have i1 : (k : Int) < (jj : Int) := by omega
     have i2 : (jj : Int) < (b.length : Int) := by have := HCL.out;omega
     have i3 : (k : Int) < (b.length : Int) := by omega
     have i4 : jj ≠ k := by omega
     have i5 : k ≠ jj := by omega
     have i6 : (1 : Int) ≤ (jj : Int) := by omega
     clear hown hbl
     go_wp2
     go_region
     go_wp2
     go_roundw
     case rel => exact ⟨k + 1,jj - 1,_,by go_num,congrArg (Value.int .i64) (by omega),by have := HJ.out;unfold Hid;omega,HS2.out,HB2.out.drew,HST.out⟩
     case measure => simp [intOf];omega
    ·have hcv := run_convert_bytes_back (P := Tryz.prog) wr 85 9 5 ⟨g,0,none⟩ c cur Tryz.underlying85 Tryz.underlying5 Tryz.underlying9 (fun j hj => hown.cells (g := g) rfl j _ (by rw [List.getElem?_map,List.getElem?_eq_getElem hj];rfl))
     rw [HCL.out] at hcv
     have hrev := HR.out.done HJ.out hkj
     rw [← HDD.out] at hrev
     have HRV := Lib.hid hrev
     have HW := Lib.hid hbl
     clear hrev hown HJ HR hbl hm
     go_wp2
     go_ret
     exact ⟨ret_str (by rw [HRV.out]),HW.out⟩
end Go.Proofs.YtpkmekdpmkfcdaaGreatDoor.St
