/- Contracts of the reference's helpers on bytes: SameBytes, Bytes, Less. -/
import Derived.Test.YtpkmekdpmkfcdaaGreatDoorProg
import Derived.Test.YtpkmekdpmkfcdaaGreatDoorWords
import Derived.WalkKit
import Derived.OwnWalk
import Derived.WalkLawsBesides
import Derived.WalkSpells
import Derived.Outline
import Derived.BigCall
import Derived.BigQuiet
import Derived.Deep.QuietTactic
import Derived.IntWalk
import Derived.Lib.Hide
import Derived.Maps.AppendAt
namespace Go.Proofs.YtpkmekdpmkfcdaaGreatDoor.By
open Go.RowKit Go.Proofs.YtpkmekdpmkfcdaaGreatDoor.Wd
theorem below_of_drewN {w : World} (n : Nat) : Below w.heap.size w (w.drewN n) := below_drewN (Below.refl _ _) n
theorem take_same {l m : List UInt8} {k : Nat} (h1 : k < l.length) (h2 : k < m.length) (h : l.take k = m.take k) (he : l[k] = m[k]) : l.take (k + 1) = m.take (k + 1) := by
 rw [List.take_succ_eq_append_getElem h1,List.take_succ_eq_append_getElem h2,h,he]
theorem ne_of_get {l m : List UInt8} {k : Nat} (h1 : k < l.length) (h2 : k < m.length) (he : l[k] ≠ m[k]) : decide (l = m) = false := by
 rw [decide_eq_false_iff_not]
 intro h
 subst h
 exact he rfl
set_option maxHeartbeats 400000 in
theorem same_any (l m : List UInt8) (A B : Option Addr) (c d : Nat) (w : World) (hl : l.length ≤ 140737488355328) (ha : Shows cel w w.heap.size A l) (hb : Shows cel w w.heap.size B m) :
  Calls Tryz.prog 62 #[.slice A l.length c,.slice B m.length d] w fun e w' => e = .returned (.bool (decide (l = m))) ∧ Below w.heap.size w w' := by
 by_cases hlm : l.length = m.length
 ·have e1 : ((l.length : Int) != (m.length : Int)) = false := by simp [hlm]
  have HL := Lib.hid hlm
  clear hlm
  go_enter Tryz.func62,Tryz.ntmps62
  go_wp2
  clear e1
  go_loopw [5] (fun i wr => ∃ k q : Nat,k ≤ l.length ∧ i = .int .i64 k ∧ l.take k = m.take k ∧ wr = w.drewN q) (fun i _ => l.length - (intOf i).toNat)
  case atStart => exact ⟨0,0,Nat.zero_le _,rfl,rfl,rfl⟩
  case round =>
   obtain ⟨k,q,hk,rfl,hsame,rfl⟩ := hrel
   have HS := Lib.hid hsame
   clear hsame
   by_cases hlt : k < l.length
   ·have hlt2 : k < m.length := by rw [← HL.out];exact hlt
    obtain ⟨b,o,rfl,_,hc1⟩ := ha.at_ hlt
    obtain ⟨b',o',rfl,_,hc2⟩ := hb.at_ hlt2
    obtain ⟨x,hx⟩ : ∃ x : Int,x = (l[k].toNat : Int) := ⟨_,rfl⟩
    obtain ⟨y,hy⟩ : ∃ y : Int,y = (m[k].toNat : Int) := ⟨_,rfl⟩
    unfold cel at hc1 hc2
    rw [← hx] at hc1
    rw [← hy] at hc2
    have i1 : (k : Int) < (l.length : Int) := by omega
    have i2 : (k : Int) < (m.length : Int) := by omega
    have hxy : x = y ↔ l[k] = m[k] := by
     rw [hx,hy]
     constructor
     ·intro h;exact UInt8.toNat_inj.1 (by omega)
     ·intro h;rw [h]
    have HXY := Lib.hid hxy
    clear hx hy hxy
    by_cases e : x = y
    ·have e2 : (x != y) = false := by simp [e]
     have HE := Lib.hid e
     clear e
     go_wp2
     go_quiet (fail)
     go_wp2
     go_roundw
     case rel => exact ⟨k + 1,_,by omega,by go_num,take_same hlt hlt2 HS.out (HXY.out.1 HE.out),rfl⟩
     case measure => simp [intOf];omega
    ·have e2 : (x != y) = true := by simp [e]
     have HE := Lib.hid e
     clear e
     go_wp2
     go_quiet (fail)
     go_wp2
     go_ret
     exact ⟨ret_bool (ne_of_get hlt hlt2 (fun h => HE.out (HXY.out.2 h))).symm,below_drewN (below_of_drewN _) _⟩
   ·go_wp2
    go_ret
    have h1 := HS.out
    have h2 := HL.out
    rw [List.take_of_length_le (by omega),List.take_of_length_le (by omega)] at h1
    exact ⟨ret_bool (by simp [h1]),below_of_drewN _⟩
 ·have e1 : ((l.length : Int) != (m.length : Int)) = true := by simp;omega
  go_enter Tryz.func62,Tryz.ntmps62
  go_wp2
  go_ret
  exact ⟨ret_bool (by symm;rw [decide_eq_false_iff_not];intro h;exact hlm (by rw [h])),Below.refl _ _⟩
theorem Tryz.infoB : (Tryz.prog.info? 5).map (fun i => (i.zero,i.size,i.bytes)) = some (some (.int .u8 0),1,1) := by kernel_rfl
set_option maxHeartbeats 400000 in
theorem bytes_any (l : List UInt8) (A : Option Addr) (c : Nat) (w : World) (hl : l.length ≤ 140737488355328) (ha : Shows cel w w.heap.size A l) :
  Calls Tryz.prog 38 #[.slice A l.length c] w fun e w' => ∃ v,e = .returned v ∧ w'.ownsRow w.heap.size 5 1 v l.length (l.map cel) ∧ Below w.heap.size w w' := by
 obtain ⟨i0,hi,hz0,hz1,hz2⟩ := info_parts Tryz.infoB
 go_enter Tryz.func38,Tryz.ntmps38
 go_wp2
 go_loopw [3,4] (fun v i wr => ∃ k : Nat,k ≤ l.length ∧ i = .int .i64 k ∧ wr.ownsRow w.heap.size 5 1 v k ((l.map cel).take k) ∧ Below w.heap.size w wr) (fun _ i _ => l.length - (intOf i).toNat)
 case atStart => exact ⟨0,Nat.zero_le _,rfl,World.ownsRow_nil _ _ _ _,Below.refl _ _⟩
 case round =>
  obtain ⟨k,hk,rfl,hown,hbl⟩ := hrel
  by_cases hlt : k < l.length
  ·obtain ⟨b,o,rfl,hbk,hc1⟩ := ha.at_ hlt
   have hc2 := (hbl.cell (p := ⟨b,o + k,none⟩) hbk).trans hc1
   have hsn := take_map cel l k hlt
   have HSN := Lib.hid hsn
   clear hsn hc1
   obtain ⟨x,hx⟩ : ∃ x : Int,.int .u8 x = cel l[k] := ⟨_,rfl⟩
   rw [← hx] at hc2
   have HX := Lib.hid hx
   clear hx
   have i1 : (k : Int) < (l.length : Int) := by omega
   go_wp2_with (at_builtin;refine wpList_append_own _ rfl _ _ 85 rfl w.heap.size 5 i0 (.int .u8 0) 1 1 Tryz.underlying85 hi hz0 hz1 hz2 rfl (by decide) _ _ _ rfl (hown.alloc _) ⟨wr.heap.size,0,none⟩ 1 1 [.int .u8 x] rfl rfl (cell_one_new _ _ _) ?c2 ?c3 ?c4 ?c5 ?_)
   case c2 => intro u hu;simp at hu;subst hu;rfl
   case c3 => unfold maxLen;omega
   case c4 => omega
   case c5 => have := hbl.size;simp;omega
   intro v' w1 hown' hgrow _
   go_wp2
   go_roundw
   case rel =>
    refine ⟨k + 1,by omega,by go_num,?_,?_⟩
    ·rw [HSN.out,← HX.out];exact hown'
    ·exact (hbl.alloc hbl.size _).grown hgrow (by have := hbl.size;simp;omega) (fun j hj => (hown.lt j hj).1)
   case measure => simp [intOf];omega
  ·obtain rfl : k = l.length := by omega
   rw [List.take_of_length_le (by simp)] at hown
   go_wp2
   go_ret
   exact ⟨_,rfl,hown,hbl⟩
/-- bytes in order -/
def lt8 : List UInt8 → List UInt8 → Bool
 | [],[] => false
 | [],_ :: _ => true
 | _ :: _,[] => false
 | a :: l,b :: m => if a = b then lt8 l m else decide (a.toNat < b.toNat)
theorem lt8_step {l m : List UInt8} {k : Nat} (h1 : k < l.length) (h2 : k < m.length) (he : l[k] = m[k]) : lt8 (l.drop k) (m.drop k) = lt8 (l.drop (k + 1)) (m.drop (k + 1)) := by
 rw [List.drop_eq_getElem_cons h1,List.drop_eq_getElem_cons h2,lt8,if_pos he]
theorem lt8_ne {l m : List UInt8} {k : Nat} (h1 : k < l.length) (h2 : k < m.length) (he : l[k] ≠ m[k]) : lt8 (l.drop k) (m.drop k) = decide (l[k].toNat < m[k].toNat) := by
 rw [List.drop_eq_getElem_cons h1,List.drop_eq_getElem_cons h2,lt8,if_neg he]
theorem lt8_end {l m : List UInt8} {k : Nat} (h : l.length ≤ k ∨ m.length ≤ k) (h1 : k ≤ l.length) (h2 : k ≤ m.length) : lt8 (l.drop k) (m.drop k) = decide (l.length < m.length) := by
 by_cases e1 : l.length ≤ k
 ·rw [List.drop_eq_nil_of_le e1]
  by_cases e2 : m.length ≤ k
  ·rw [List.drop_eq_nil_of_le e2,lt8];symm;rw [decide_eq_false_iff_not];omega
  ·rw [List.drop_eq_getElem_cons (by omega),lt8];symm;rw [decide_eq_true_iff];omega
 ·have e2 : m.length ≤ k := by omega
  rw [List.drop_eq_nil_of_le e2,List.drop_eq_getElem_cons (by omega : k < l.length),lt8];symm;rw [decide_eq_false_iff_not];omega
end Go.Proofs.YtpkmekdpmkfcdaaGreatDoor.By
