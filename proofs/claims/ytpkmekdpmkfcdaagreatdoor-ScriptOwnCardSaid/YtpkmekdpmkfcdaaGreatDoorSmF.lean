/- Contracts: bytes and bits as words. Contract: faults as words. Contract: a change as words. -/
import Derived.Test.YtpkmekdpmkfcdaaGreatDoorSmE
import Derived.Test.YtpkmekdpmkfcdaaGreatDoorPrefP
import Derived.Deep.OwnRows
namespace Go.Proofs.YtpkmekdpmkfcdaaGreatDoor.Sr
set_option linter.unusedVariables false
set_option linter.unusedSimpArgs false
open Go.RowKit Go.Proofs.YtpkmekdpmkfcdaaGreatDoor.Wd Go.Proofs.YtpkmekdpmkfcdaaGreatDoor.Px Go.Proofs.YtpkmekdpmkfcdaaGreatDoor.By Go.Proofs.YtpkmekdpmkfcdaaGreatDoor.En Go.Proofs.YtpkmekdpmkfcdaaGreatDoor.Pl Go.Proofs.YtpkmekdpmkfcdaaGreatDoor.Pf Go.Proofs.YtpkmekdpmkfcdaaGreatDoor.Sc
theorem isnum_any (n : Int) (w : World) : Calls Tryz.prog 54 #[.int .i64 n] w fun e w' => e = .returned (.bool (numOk n)) ∧ w' = w := by
 by_cases h1 : 0 ≤ n
 ·by_cases h2 : n ≤ 4294967295
  ·have hv : numOk n = true := decide_eq_true ⟨h1,h2⟩
   rw [hv]
   go_enter Tryz.func54,Tryz.ntmps54
   go_wp2
   go_ret
   exact ⟨rfl,rfl⟩
  ·have hv : numOk n = false := decide_eq_false (by omega)
   rw [hv]
   go_enter Tryz.func54,Tryz.ntmps54
   go_wp2
   go_ret
   exact ⟨rfl,rfl⟩
 ·have hv : numOk n = false := decide_eq_false (by omega)
  rw [hv]
  go_enter Tryz.func54,Tryz.ntmps54
  go_wp2
  go_ret
  exact ⟨rfl,rfl⟩
set_option maxRecDepth 20000 in
theorem hexed_any (b : List UInt8) (A : Option Addr) (c : Nat) (w : World) (hb : b.length ≤ 2000000) (hc : b.length ≤ c) (hs : Shows cel w w.heap.size A b) :
  Calls Tryz.prog 64 #[.slice A b.length c] w fun e w' => e = .returned (.string ⟨(hexO b).toArray⟩) ∧ Below w.heap.size w w' := by
 obtain ⟨i0',hi0,hz0,hz1,hz2⟩ := info_parts Tryz.infoB
 obtain ⟨N,hN⟩ : ∃ N,b.length = N := ⟨_,rfl⟩
 rw [hN] at hb hc ⊢
 by_cases h0 : N = 0
 ·subst h0
  have hv : hexO b = [45] := by unfold hexO;rw [if_pos (List.length_eq_zero_iff.1 hN)]
  rw [hv]
  clear hv hN hs
  go_enter Tryz.func64,Tryz.ntmps64
  go_wp2
  go_ret
  exact ⟨rfl,Below.refl _ _⟩
 ·have i0 : ((N : Int) == 0) = false := by rw [beq_eq_false_iff_ne];omega
  have i1 : IntKind.i64.wrap (2 * (N : Int)) = 2 * (N : Int) := IntWalk.i64_in _ ⟨by omega,by omega⟩
  have HN := Lib.hid hN
  clear hN
  go_enter Tryz.func64,Tryz.ntmps64
  go_wp2_with (first | (at_make;refine wpList_make_own _ rfl _ _ 85 rfl w.heap.size 5 i0' (.int .u8 0) 1 Tryz.underlying85 hi0 hz0 hz1 _ _ _ (2 * N) rfl rfl (by first | rfl | omega) (by rw [hz2];omega) (by unfold maxLen;omega) (by omega) ?_))
  intro w1 hown1 hg1
  have hb1 : Below w.heap.size w w1 := (Below.refl _ w).grown hg1 (Nat.le_refl _) (fun j hj => by cases hj)
  go_wp2
  go_loopw [3,15] (fun v i wr => ∃ (k : Nat) (dn : List UInt8),k ≤ N ∧ i = .int .i64 (k : Int) ∧ Hid (dn = (b.take k).flatMap hx) ∧ (∃ A c,v = .slice A (2 * k) c) ∧ wr.ownsRow w.heap.size 5 1 v (2 * k) (dn.map cel) ∧ Below w.heap.size w wr) (fun _ i _ => N - (intOf i).toNat)
  case atStart => exact ⟨0,[],Nat.zero_le _,rfl,Lib.hid rfl,⟨_,_,rfl⟩,hown1,hb1⟩
  case round =>
   obtain ⟨k,dn,hk,rfl,HD,⟨A2,c2,rfl⟩,hown,hbl⟩ := hrel
   clear hown1 hg1 hb1
   by_cases hlt : k < N
   ·have j1 : (k : Int) < (N : Int) := by omega
    obtain ⟨bb,o,rfl,hbb,hcell⟩ := hs (by rw [HN.out];omega)
    obtain ⟨x,hbx⟩ : ∃ x,b[k]? = some x := ⟨_,List.getElem?_eq_getElem (by rw [HN.out];exact hlt)⟩
    have cc := (hbl.cell (p := ⟨bb,o + k,none⟩) hbb).trans (hcell k x hbx)
    obtain ⟨y,hy⟩ : ∃ y : Nat,x.toNat = y := ⟨_,rfl⟩
    have hy2 : y < 256 := by rw [← hy];exact UInt8.toNat_lt _
    unfold cel at cc
    rw [hy] at cc
    obtain ⟨qa,hqa⟩ : ∃ q : Nat,y / 16 = q := ⟨_,rfl⟩
    obtain ⟨ra,hra⟩ : ∃ q : Nat,y % 16 = q := ⟨_,rfl⟩
    have e1 : (y : Int) / 16 = (qa : Int) := by omega
    have e2 : bits .and .u8 (y : Int) 15 = (ra : Int) := by rw [and15 y hy2,hra]
    obtain ⟨da,hda⟩ : ∃ d : Nat,(hexd qa).toNat = d := ⟨_,rfl⟩
    obtain ⟨db,hdb⟩ : ∃ d : Nat,(hexd ra).toNat = d := ⟨_,rfl⟩
    have f1 := hexd_index qa da (by omega) hda
    have f2 := hexd_index ra db (by omega) hdb
    have HD2 : Hid (dn ++ [hexd qa,hexd ra] = (b.take (k + 1)).flatMap hx) := Lib.hid (by
     rw [List.take_add_one,hbx,List.flatMap_append,← HD.out]
     simp [hx,hy,hqa,hra])
    have HC := Lib.hid (show [hexd qa,hexd ra].map cel = [.int .u8 da,.int .u8 db] by simp [cel,hda,hdb])
    clear hbx hy hqa hra hda hdb hcell
    go_upto_region 7 with fail
    have hownd := own_on hown (Below.refl _ _).drew
    have hbkd := hbl.drew
    clear hown hbl cc
    refine wp_region_noPanic ?_
    refine wp_region_held_drew (S := fun _ => True) (by kernel_rfl) trivial (fun hHeld => ?_)
    generalize wr.drew = wd at hownd hbkd hHeld ⊢
    refine wpAnyH_take (i := 0) (v := ?_) rfl (by kernel_rfl) (by kernel_rfl) (by kernel_rfl) (fun _ _ _ h => h) (Or.inl ⟨by rfl,?_⟩) (by assumption) ?_
    rotate_left
    ·intro w hSw
     go_simp
     try with_reducible rfl
    simp only [Act.put,List.setIfInBounds_toArray,List.set_cons_zero,List.set_cons_succ]
    refine wpAnyH_take (i := 1) (v := ?_) rfl (by kernel_rfl) (by kernel_rfl) (by kernel_rfl) (fun _ _ _ h => h) (Or.inl ⟨by rfl,?_⟩) (by assumption) ?_
    rotate_left
    ·intro w hSw
     go_simp
     try with_reducible rfl
    simp only [Act.put,List.setIfInBounds_toArray,List.set_cons_zero,List.set_cons_succ]
    refine wpAnyH_take (i := 2) (v := ?_) rfl (by kernel_rfl) (by kernel_rfl) (by kernel_rfl) (fun _ _ _ h => h) (Or.inl ⟨by rfl,?_⟩) (by assumption) ?_
    rotate_left
    ·intro w hSw
     go_simp
     try with_reducible rfl
    simp only [Act.put,List.setIfInBounds_toArray,List.set_cons_zero,List.set_cons_succ]
    refine wpAnyH_take (i := 3) (v := ?_) rfl (by kernel_rfl) (by kernel_rfl) (by kernel_rfl) (fun _ _ _ h => h) (Or.inl ⟨by rfl,?_⟩) (by assumption) ?_
    rotate_left
    ·intro w hSw
     go_simp
     try with_reducible rfl
    simp only [Act.put,List.setIfInBounds_toArray,List.set_cons_zero,List.set_cons_succ]
    refine wpAnyH_take (i := 4) (v := ?_) rfl (by kernel_rfl) (by kernel_rfl) (by kernel_rfl) (fun _ _ _ h => h) (Or.inl ⟨by rfl,?_⟩) (by assumption) ?_
    rotate_left
    ·intro w hSw
     go_simp
     try with_reducible rfl
    simp only [Act.put,List.setIfInBounds_toArray,List.set_cons_zero,List.set_cons_succ]
    refine wpAnyH_take (i := 5) (v := ?_) rfl (by kernel_rfl) (by kernel_rfl) (by kernel_rfl) (fun _ _ _ h => h) (Or.inl ⟨by rfl,?_⟩) (by assumption) ?_
    rotate_left
    ·intro w hSw
     go_simp
     try with_reducible rfl
    simp only [Act.put,List.setIfInBounds_toArray,List.set_cons_zero,List.set_cons_succ]
    refine wpAnyH_take (i := 6) (v := ?_) rfl (by kernel_rfl) (by kernel_rfl) (by kernel_rfl) (fun _ _ _ h => h) (Or.inl ⟨by rfl,?_⟩) (by assumption) ?_
    rotate_left
    ·intro w hSw
     go_simp
     try with_reducible rfl
    simp only [Act.put,List.setIfInBounds_toArray,List.set_cons_zero,List.set_cons_succ]
    clear f1 f2 e1 e2
    refine wpAnyH_ready (rs := [7]) (by kernel_rfl) (by simp) (AllReadyH.cons rfl (fun K hK => ?_) AllReadyH.nil)
    go_simp
    refine hK.out _ _ trivial (fun hHeld => ?_)
    clear hK K
    try simp only [Act.put,List.setIfInBounds_toArray,List.set_cons_zero,List.set_cons_succ]
    refine wpAnyH_ready (rs := [8]) (by kernel_rfl) (by simp) (AllReadyH.cons rfl (fun K hK => ?_) AllReadyH.nil)
    refine step_append_lies _ (by rfl) (.tmp 19) (.tmp 26) 85 (by rfl) w.heap.size 5 i0' (.int .u8 0) 1 1 Tryz.underlying85 hi0 hz0 hz1 hz2 rfl (by decide) _ (2 * k) _ (by rfl) (hownd.alloc _) ⟨wd.heap.size,0,none⟩ 2 2 [.int .u8 (da : Int),.int .u8 (db : Int)] (by rfl) rfl (cells_at rfl _ _) (by intro u hu;simp at hu;rcases hu with rfl | rfl <;> rfl) (by omega) (by unfold maxLen;omega) (by omega) (by have := hbkd.size;simp;omega) _ rfl ?_
    intro g cap w3 hown' hgrow hat hlt3
    have hbk3 := (hbkd.alloc hbkd.size _).grown hgrow (by have := hbkd.size;simp;omega) (fun j hj => (hownd.lt j hj).1)
    refine hK.out _ _ trivial (fun hHeld => ?_)
    clear hK K
    try simp only [Act.put,List.setIfInBounds_toArray,List.set_cons_zero,List.set_cons_succ]
    refine wpAnyH_take (i := 9) (v := ?_) rfl (by kernel_rfl) (by kernel_rfl) (by kernel_rfl) (fun _ _ _ h => h) (Or.inl ⟨by rfl,?_⟩) (by assumption) ?_
    rotate_left
    ·intro w hSw
     go_simp
     try with_reducible rfl
    simp only [Act.put,List.setIfInBounds_toArray,List.set_cons_zero,List.set_cons_succ]
    refine wpAnyH_done (by kernel_rfl) ?_ _
    refine NoPanic.normal ?_
    clear hownd hgrow hbkd
    go_wp2
    go_roundw
    case rel => exact ⟨k + 1,_,by omega,by go_num,HD2,⟨_,_,rfl⟩,by rw [List.map_append,HC.out];exact hown',hbk3⟩
    case measure => simp [intOf];omega
   ·obtain rfl : k = N := by omega
    have j1 : ¬ (k : Int) < (k : Int) := by omega
    have hdl : dn.length = 2 * k := by have := hown.1;simp at this;omega
    have hdv : dn = hexO b := by
     rw [HD.out,List.take_of_length_le (by rw [HN.out];exact Nat.le_refl _)]
     unfold hexO
     rw [if_neg (by intro e;rw [e] at HN;have := HN.out;simp at this;omega)]
    obtain ⟨g,rfl⟩ : ∃ g,A2 = some ⟨g,0,none⟩ := by
     rcases hown.2 with ⟨-,h2⟩ | ⟨g,cap,cur,h1,-⟩
     ·omega
     ·injection h1 with h1;exact ⟨g,h1⟩
    have hcv := run_convert_bytes_back (P := Tryz.prog) wr 85 9 5 ⟨g,0,none⟩ c2 dn Tryz.underlying85 Tryz.underlying5 Tryz.underlying9 (fun j hj => hown.cells (g := g) rfl j _ (by rw [List.getElem?_map,List.getElem?_eq_getElem hj];rfl))
    rw [hdl] at hcv
    have HDV := Lib.hid hdv
    have HB := Lib.hid hbl
    clear hdv hown hdl hbl hs
    go_wp2
    go_ret
    exact ⟨by rw [HDV.out];rfl,HB.out⟩
set_option maxRecDepth 20000 in
theorem flagged_any (b : List Bool) (A : Option Addr) (c : Nat) (w : World) (hb : b.length ≤ 2000000) (hc : b.length ≤ c) (hs : Shows Value.bool w w.heap.size A b) :
  Calls Tryz.prog 219 #[.slice A b.length c] w fun e w' => e = .returned (.string ⟨(bitO b).toArray⟩) ∧ Below w.heap.size w w' := by
 obtain ⟨i0',hi0,hz0,hz1,hz2⟩ := info_parts Tryz.infoB
 obtain ⟨N,hN⟩ : ∃ N,b.length = N := ⟨_,rfl⟩
 rw [hN] at hb hc ⊢
 by_cases h0 : N = 0
 ·subst h0
  have hv : bitO b = [45] := by unfold bitO;rw [if_pos (List.length_eq_zero_iff.1 hN)]
  rw [hv]
  clear hv hN hs
  go_enter Tryz.func219,Tryz.ntmps219
  go_wp2
  go_ret
  exact ⟨rfl,Below.refl _ _⟩
 ·have i0 : ((N : Int) == 0) = false := by rw [beq_eq_false_iff_ne];omega
  have HN := Lib.hid hN
  clear hN
  have hmk := run_make_row' (P := Tryz.prog) 85 5 (.int .u8 0) 1 Tryz.underlying85 Tryz.infoB rfl .i64 .i64 N (by omega) (by omega)
  go_enter Tryz.func219,Tryz.ntmps219
  go_wp2
  go_loopw [14] (fun i wr => ∃ (k : Nat) (cs : Array Value),k ≤ N ∧ i = .int .i64 (k : Int) ∧ Hid (wr.heap[w.heap.size]? = some (.cells cs 5 (0,0)) ∧ cs.size = N ∧ ∀ (j : Nat) x,j < k → b[j]? = some x → cs[j]? = some (cel (bitC x))) ∧ Below w.heap.size w wr) (fun i _ => N - (intOf i).toNat)
  case atStart => exact ⟨0,_,Nat.zero_le _,rfl,Lib.hid ⟨blk_new w _ _,size_madeCells _ _,fun j x h => by omega⟩,(Below.refl _ w).alloc (Nat.le_refl _) _⟩
  case round =>
   obtain ⟨k,cs,hk,rfl,HC,hbl⟩ := hrel
   clear hmk
   by_cases hlt : k < N
   ·have j1 : (k : Int) < (N : Int) := by omega
    obtain ⟨bb,o,rfl,hbb,hcell⟩ := hs (by rw [HN.out];omega)
    obtain ⟨x,hbx⟩ : ∃ x,b[k]? = some x := ⟨_,List.getElem?_eq_getElem (by rw [HN.out];exact hlt)⟩
    have cc := (hbl.cell (p := ⟨bb,o + k,none⟩) hbb).trans (hcell k x hbx)
    have hbn : bb ≠ w.heap.size := Nat.ne_of_lt hbb
    obtain ⟨u,hu⟩ : ∃ u,cs[k]? = some u := ⟨_,Array.getElem?_eq_getElem (by rw [HC.out.2.1];exact hlt)⟩
    have cD : wr.cell? ⟨w.heap.size,k,none⟩ = some u := (blk_cell HC.out.1 k).trans hu
    have fD := blk_open HC.out.1
    have hst : ∀ (v : Value) (cs2 : Array Value) (W : World),W.heap[w.heap.size]? = some (.cells cs2 5 (0,0)) → cs2.size = N → (∀ j,j ≠ k → cs2[j]? = cs[j]?) → v = cel (bitC x) →
      ((W.setCell ⟨w.heap.size,k,none⟩ v).heap[w.heap.size]? = some (.cells (cs2.setIfInBounds k v) 5 (0,0)) ∧ (cs2.setIfInBounds k v).size = N ∧ ∀ (j : Nat) y,j < k + 1 → b[j]? = some y → (cs2.setIfInBounds k v)[j]? = some (cel (bitC y))) := fun v cs2 W h1 h2 h3 h4 => by
     refine ⟨heap_setCell_same W _ k cs2 _ v h1,by simp [h2],fun j y hj hy => ?_⟩
     by_cases e : j = k
     ·subst e
      rw [hbx] at hy
      injection hy with hy
      subst hy
      rw [Array.getElem?_setIfInBounds_self_of_lt (by omega),h4]
     ·rw [Array.getElem?_setIfInBounds_ne (by omega),h3 j e]
      exact HC.out.2.2 j y (by omega) hy
    have HST := Lib.hid hst
    clear hst hu hbx hcell hs
    cases x with
    | false =>
     go_wp2
     go_roundw
     case rel => exact ⟨k + 1,_,by omega,by go_num,Lib.hid (HST.out (.int .u8 48) cs wr HC.out.1 HC.out.2.1 (fun _ _ => rfl) rfl),hbl.setCell (Nat.le_refl _) _⟩
     case measure => simp [intOf];omega
    | true =>
     go_wp2
     go_roundw
     case rel => exact ⟨k + 1,_,by omega,by go_num,Lib.hid (HST.out (.int .u8 49) (cs.setIfInBounds k (.int .u8 48)) (wr.setCell ⟨w.heap.size,k,none⟩ (.int .u8 48)) (heap_setCell_same wr _ k cs _ _ HC.out.1) (by simp [HC.out.2.1]) (fun j hj => Array.getElem?_setIfInBounds_ne (by omega)) rfl),(hbl.setCell (p := ⟨w.heap.size,k,none⟩) (Nat.le_refl _) _).setCell (Nat.le_refl _) _⟩
     case measure => simp [intOf];omega
   ·obtain rfl : k = N := by omega
    have j1 : ¬ (k : Int) < (k : Int) := by omega
    have hdl : (b.map bitC).length = k := by rw [List.length_map];exact HN.out
    have hdv : b.map bitC = bitO b := by
     unfold bitO
     rw [if_neg (by intro e;rw [e] at HN;have := HN.out;simp at this;omega)]
    have hcv := run_convert_bytes_back (P := Tryz.prog) wr 85 9 5 ⟨w.heap.size,0,none⟩ k (b.map bitC) Tryz.underlying85 Tryz.underlying5 Tryz.underlying9 (fun j hj => by
     have hj2 : j < b.length := by simpa using hj
     have h2 := HC.out.2.2 j _ (by rw [HN.out] at hj2;exact hj2) (List.getElem?_eq_getElem hj2)
     have h3 := (blk_cell HC.out.1 j).trans h2
     rw [show (⟨w.heap.size,0,none⟩ : Addr).add j = ⟨w.heap.size,j,none⟩ from by unfold Addr.add;split <;> simp_all,List.getElem_map]
     exact h3)
    rw [hdl] at hcv
    have HDV := Lib.hid hdv
    clear hdv hdl hs
    go_wp2
    go_ret
    exact ⟨by rw [HDV.out];rfl,hbl⟩
end Go.Proofs.YtpkmekdpmkfcdaaGreatDoor.Sr
namespace Go.Proofs.YtpkmekdpmkfcdaaGreatDoor.Sr
set_option linter.unusedVariables false
set_option linter.unusedSimpArgs false
open Go.RowKit Go.Proofs.YtpkmekdpmkfcdaaGreatDoor.Wd Go.Proofs.YtpkmekdpmkfcdaaGreatDoor.Px Go.Proofs.YtpkmekdpmkfcdaaGreatDoor.By Go.Proofs.YtpkmekdpmkfcdaaGreatDoor.En Go.Proofs.YtpkmekdpmkfcdaaGreatDoor.Pl Go.Proofs.YtpkmekdpmkfcdaaGreatDoor.Pf Go.Proofs.YtpkmekdpmkfcdaaGreatDoor.Sc
theorem mapE_snoc {α β : Type} {f : α → Except Int β} : ∀ {a : List α} {bs : List β} {x : α} {b : β},mapE f a = .ok bs → f x = .ok b → mapE f (a ++ [x]) = .ok (bs ++ [b])
 | [],bs,x,b,h,hx => by
  rw [mapE] at h
  injection h with h
  subst h
  rw [List.nil_append,mapE,hx,mapE];rfl
 | c :: a,bs,x,b,h,hx => by
  rw [mapE] at h
  cases e1 : f c with
  | error z => rw [e1] at h;cases h
  | ok d =>
   rw [e1] at h
   cases e2 : mapE f a with
   | error z => rw [e2] at h;cases h
   | ok ds =>
    rw [e2] at h
    injection h with h
    subst h
    rw [List.cons_append,mapE,e1,mapE_snoc e2 hx];rfl
theorem mapE_bad {α β : Type} {f : α → Except Int β} : ∀ {a : List α} {bs : List β} {x : α} {z : Int} (r : List α),mapE f a = .ok bs → f x = .error z → mapE f (a ++ x :: r) = .error z
 | [],bs,x,z,r,h,hx => by rw [List.nil_append,mapE,hx]
 | c :: a,bs,x,z,r,h,hx => by
  rw [mapE] at h
  cases e1 : f c with
  | error z => rw [e1] at h;cases h
  | ok d =>
   rw [e1] at h
   cases e2 : mapE f a with
   | error z => rw [e2] at h;cases h
   | ok ds =>
    rw [List.cons_append,mapE,e1,mapE_bad r e2 hx]
theorem take_snoc {α : Type} {l : List α} {k : Nat} {x : α} (h : l[k]? = some x) : l.take (k + 1) = l.take k ++ [x] ∧ l = l.take k ++ x :: l.drop (k + 1) := by
 have hk := (List.getElem?_eq_some_iff.1 h).1
 refine ⟨by rw [List.take_add_one,h];rfl,?_⟩
 conv => lhs;rw [← List.take_append_drop k l]
 rw [List.drop_eq_getElem_cons hk]
 congr 2
 exact (List.getElem?_eq_some_iff.1 h).2
/-- faults as a slice shows them -/
def ShF (w : World) (A : Option Addr) (l : List (Int × Int)) : Prop :=
 0 < l.length → ∃ b o,A = some ⟨b,o,none⟩ ∧ b < w.heap.size ∧ ∀ (i : Nat) f,l[i]? = some f → w.cell? ⟨b,o + i * 2,none⟩ = some (.int .i64 f.1) ∧ w.cell? ⟨b,o + i * 2 + 1,none⟩ = some (.int .i64 f.2)
/-- a text, or an error -/
def TextR (r : Except Int (List UInt8)) (e : Ending) : Prop := match r with
 | .ok t => e = .returned (.tuple #[.string ⟨t.toArray⟩,.int .i64 0])
 | .error x => e = .returned (.tuple #[.string ⟨#[]⟩,.int .i64 x])
def joined (r : Except Int (List (List UInt8))) : Except Int (List UInt8) := match r with
 | .ok ws => .ok (join 32 ws)
 | .error x => .error x
theorem isnum_as {n : Int} {b : Bool} (h : Hid (numOk n = b)) (w : World) : Calls Tryz.prog 54 #[.int .i64 n] w fun e w' => e = .returned (.bool b) ∧ w' = w := by
 have := isnum_any n w
 rwa [h.out] at this
theorem itoa_as {n : Int} {t : List UInt8} (h : Hid (decW n = t)) (hn : Hid (numOk n = true)) (w : World) (hE : Env w) : Calls Tryz.prog 55 #[.int .i64 n] w fun e w' => e = .returned (.string ⟨t.toArray⟩) ∧ Below w.heap.size w w' := by
 have hb := of_decide_eq_true hn.out
 have := itoa_any n w hb.1 (by omega) hE
 rw [show Lib.decDigits n.toNat = decW n from rfl,h.out] at this
 exact this
theorem decW_len {n : Int} (h : numOk n = true) : (decW n).length ≤ 10 := by
 have hb := of_decide_eq_true h
 exact decDigits_len_le 10 _ (by omega) (by omega)
theorem join_le (s : UInt8) (m : Nat) : ∀ l : List (List UInt8),(∀ x ∈ l,x.length ≤ m) → (join s l).length ≤ l.length * (m + 1)
 | [],_ => by simp [join]
 | [a],h => by
  have := h a (by simp)
  simp only [join,List.length_cons,List.length_nil];omega
 | a :: b :: r,h => by
  have h1 := h a (by simp)
  have h2 := join_le s m (b :: r) (fun x hx => h x (by simp [hx]))
  rw [join,List.length_append,List.length_cons]
  simp only [List.length_cons] at h2 ⊢
  have e : (r.length + 1 + 1) * (m + 1) = (r.length + 1) * (m + 1) + (m + 1) := by rw [Nat.add_mul (r.length + 1) 1,Nat.one_mul]
  omega
set_option maxRecDepth 20000 in
theorem faultsof_any (l : List (Int × Int)) (A : Option Addr) (c : Nat) (w : World) (hE : Env w) (hl : l.length ≤ 2000000) (hc : l.length ≤ c) (hs : ShF w A l) :
  Calls Tryz.prog 220 #[.slice A l.length c] w fun e w' => TextR (joined (fltsT l)) e ∧ Below w.heap.size w w' := by
 obtain ⟨i0,hi0,hz0,hz1,hz2⟩ := info_parts infoStr
 obtain ⟨N,hN⟩ : ∃ N,l.length = N := ⟨_,rfl⟩
 rw [hN] at hl hc ⊢
 have HN := Lib.hid hN
 clear hN
 go_enter Tryz.func220,Tryz.ntmps220
 go_wp2
 go_loopw [4,9] (fun v i wr => ∃ (k : Nat) (dn : List (List UInt8)),k ≤ N ∧ i = .int .i64 (k : Int) ∧ Hid (∃ ls,mapE fltT (l.take k) = .ok ls ∧ dn = ls.flatten) ∧ Hid (∀ x ∈ dn,x.length ≤ 20) ∧ (∃ A c,v = .slice A (2 * k) c) ∧ wr.ownsRow w.heap.size 9 1 v (2 * k) (dn.map strc) ∧ Below w.heap.size w wr) (fun _ i _ => N - (intOf i).toNat)
 case atStart => exact ⟨0,[],Nat.zero_le _,rfl,Lib.hid ⟨[],rfl,rfl⟩,Lib.hid (by simp),⟨_,_,rfl⟩,World.ownsRow_nil _ _ _ _,Below.refl _ _⟩
 case round =>
  obtain ⟨k,dn,hk,rfl,HM,HL,⟨A2,c2,rfl⟩,hown,hbl⟩ := hrel
  by_cases hlt : k < N
  ·have j1 : (k : Int) < (N : Int) := by omega
   obtain ⟨bb,o,rfl,hbb,hcell⟩ := hs (by rw [HN.out];omega)
   obtain ⟨⟨fa,fk⟩,hf⟩ : ∃ f,l[k]? = some f := ⟨_,List.getElem?_eq_getElem (by rw [HN.out];exact hlt)⟩
   obtain ⟨hc0,hc1⟩ := hcell k _ hf
   have c0 := (hbl.cell (p := ⟨bb,o + k * 2,none⟩) hbb).trans hc0
   have c1 := (hbl.cell (p := ⟨bb,o + k * 2 + 1,none⟩) hbb).trans hc1
   simp only at c0 c1
   obtain ⟨hts,htl⟩ := take_snoc hf
   have HBAD : Hid (∀ z,fltT (fa,fk) = .error z → joined (fltsT l) = .error z) := Lib.hid (fun z hz => by
    obtain ⟨ls,h1,h2⟩ := HM.out
    unfold fltsT joined
    rw [htl,mapE_bad _ h1 hz])
   have HGO : Hid (∀ ws,fltT (fa,fk) = .ok ws → ∃ ls,mapE fltT (l.take (k + 1)) = .ok ls ∧ dn ++ ws = ls.flatten) := Lib.hid (fun ws hz => by
    obtain ⟨ls,h1,h2⟩ := HM.out
    exact ⟨ls ++ [ws],by rw [hts];exact mapE_snoc h1 hz,by rw [h2];simp⟩)
   clear hts htl hf hcell hc0 hc1
   obtain ⟨b,hb⟩ : ∃ b,numOk fa = b := ⟨_,rfl⟩
   have HB := Lib.hid hb
   by_cases q1 : fk = 1
   ·subst q1
    have hb2 := hbl.alloc hbl.size (.cells #[.int .i64 fa,.int .i64 1] 125)
    have hsz := hbl.size
    have hs2 := hb2.size
    go_wp2_with (first
          | (go_at_call 54;refine (isnum_as HB _).mono ?_;rintro e w9 ⟨rfl,rfl⟩)
          | (go_at_call 55;refine (itoa_as HT HB _ (hE.on hb4)).mono ?_;rintro e w5 ⟨rfl,hb5⟩;have hown5 := own_on hown4 hb5;have hb6 := hb4.trans (hb5.mono hb4.size);clear hb5)
          | (at_builtin;go_loud (refine wpList_append_own _ rfl _ _ 37 rfl w.heap.size 9 i0 (.string ⟨#[]⟩) 1 16 Tryz.underlying37 hi0 hz0 hz1 hz2 rfl (by decide) _ _ _ rfl ((hown.alloc _).alloc _) ⟨wr.heap.size + 1,0,none⟩ 1 1 [.string ⟨#[112,111,119,101,114]⟩] rfl rfl (cells_at (by simp) _ _) ?c2 ?c3 ?c4 ?c5 ?_)))
    case c2 => intro u hu;simp at hu;subst hu;rfl
    case c3 => unfold maxLen;omega
    case c4 => omega
    case c5 => simp;omega
    intro v' w3 hown3 hgrow _
    have hbk3 := (hb2.alloc hb2.size _).grown hgrow (by simp;omega) (fun j hj => (hown.lt j hj).1)
    have hfc : w3.heap[wr.heap.size]? = some (.cells #[.int .i64 fa,.int .i64 1] 125 (0,0)) := (hgrow.block _ (by simp;omega) (fun e => by have := (hown.lt _ e.symm).2;omega)).trans ((heap_alloc_old _ _ (by simp)).trans (blk_new wr _ _))
    have d0 : w3.cell? ⟨wr.heap.size,0,none⟩ = some (.int .i64 fa) := (blk_cell hfc 0).trans rfl
    obtain ⟨A3,c3,rfl,-⟩ := own_sl hown3
    clear hown hgrow hbl hb2 c0 c1
    cases b with
    | false =>
     have HE := Lib.hid (HBAD.out 223 (by unfold fltT;rw [if_neg (by simp),if_pos hb]))
     clear hb
     go_wp2_with (go_at_call 54;refine (isnum_as HB _).mono ?_;rintro e w9 ⟨rfl,rfl⟩)
     go_ret2
     exact ⟨by rw [HE.out];exact rfl,hbk3⟩
    | true =>
     have HG := Lib.hid (HGO.out [pow,decW fa] (by unfold fltT;rw [if_neg (by simp),if_neg (by rw [hb];simp)];rfl))
     obtain ⟨tx,htx⟩ : ∃ tx,decW fa = tx := ⟨_,rfl⟩
     have HT := Lib.hid htx
     have HTL : Hid (tx.length ≤ 10) := Lib.hid (by rw [← htx];exact decW_len hb)
     clear hb htx
     go_wp2_with (first
      | (go_at_call 54;refine (isnum_as HB _).mono ?_;rintro e w9 ⟨rfl,rfl⟩)
      | (go_at_call 55;refine (itoa_as HT HB _ (hE.on hbk3)).mono ?_;rintro e w5 ⟨rfl,hb5⟩;have hown5 := own_on hown3 hb5;have hb6 := hbk3.trans (hb5.mono hbk3.size);clear hb5)
      | (at_builtin;go_loud (refine wpList_append_own _ rfl _ _ 37 rfl w.heap.size 9 i0 (.string ⟨#[]⟩) 1 16 Tryz.underlying37 hi0 hz0 hz1 hz2 rfl (by decide) _ _ _ rfl (hown5.alloc _) ⟨w5.heap.size,0,none⟩ 1 1 [.string ⟨tx.toArray⟩] rfl rfl (cells_at rfl _ _) ?c2 ?c3 ?c4 ?c5 ?_)))
     case c2 => intro u hu;simp at hu;subst hu;rfl
     case c3 => unfold maxLen;omega
     case c4 => omega
     case c5 => have := hb6.size;simp;omega
     intro v' w6 hown6 hgrow _
     have hbk6 := (hb6.alloc hb6.size _).grown hgrow (by have := hb6.size;simp;omega) (fun j hj => (hown5.lt j hj).1)
     obtain ⟨A4,c4,rfl,-⟩ := own_sl hown6
     clear hown3 hown5 hgrow hb6 d0 hbk3 hfc
     go_wp2
     go_roundw
     case rel => exact ⟨k + 1,dn ++ [pow,tx],by omega,by go_num,by rw [← HT.out];exact HG,Lib.hid (fun x hx => by rcases List.mem_append.1 hx with hx | hx;exact HL.out x hx;simp at hx;rcases hx with rfl | rfl;decide;have := HTL.out;omega),⟨_,_,rfl⟩,by simpa [strc,pow,Nat.mul_add] using hown6,hbk6⟩
     case measure => simp [intOf];omega
   ·by_cases q2 : fk = 2
    ·subst q2
     have hb2 := hbl.alloc hbl.size (.cells #[.int .i64 fa,.int .i64 2] 125)
     have hsz := hbl.size
     have hs2 := hb2.size
     go_wp2_with (first
           | (go_at_call 54;refine (isnum_as HB _).mono ?_;rintro e w9 ⟨rfl,rfl⟩)
           | (go_at_call 55;refine (itoa_as HT HB _ (hE.on hb4)).mono ?_;rintro e w5 ⟨rfl,hb5⟩;have hown5 := own_on hown4 hb5;have hb6 := hb4.trans (hb5.mono hb4.size);clear hb5)
           | (at_builtin;go_loud (refine wpList_append_own _ rfl _ _ 37 rfl w.heap.size 9 i0 (.string ⟨#[]⟩) 1 16 Tryz.underlying37 hi0 hz0 hz1 hz2 rfl (by decide) _ _ _ rfl ((hown.alloc _).alloc _) ⟨wr.heap.size + 1,0,none⟩ 1 1 [.string ⟨#[105,111]⟩] rfl rfl (cells_at (by simp) _ _) ?c2 ?c3 ?c4 ?c5 ?_)))
     case c2 => intro u hu;simp at hu;subst hu;rfl
     case c3 => unfold maxLen;omega
     case c4 => omega
     case c5 => simp;omega
     intro v' w3 hown3 hgrow _
     have hbk3 := (hb2.alloc hb2.size _).grown hgrow (by simp;omega) (fun j hj => (hown.lt j hj).1)
     have hfc : w3.heap[wr.heap.size]? = some (.cells #[.int .i64 fa,.int .i64 2] 125 (0,0)) := (hgrow.block _ (by simp;omega) (fun e => by have := (hown.lt _ e.symm).2;omega)).trans ((heap_alloc_old _ _ (by simp)).trans (blk_new wr _ _))
     have d0 : w3.cell? ⟨wr.heap.size,0,none⟩ = some (.int .i64 fa) := (blk_cell hfc 0).trans rfl
     obtain ⟨A3,c3,rfl,-⟩ := own_sl hown3
     clear hown hgrow hbl hb2 c0 c1
     cases b with
     | false =>
      have HE := Lib.hid (HBAD.out 223 (by unfold fltT;rw [if_neg (by simp),if_pos hb]))
      clear hb
      go_wp2_with (go_at_call 54;refine (isnum_as HB _).mono ?_;rintro e w9 ⟨rfl,rfl⟩)
      go_ret2
      exact ⟨by rw [HE.out];exact rfl,hbk3⟩
     | true =>
      have HG := Lib.hid (HGO.out [inou,decW fa] (by unfold fltT;rw [if_neg (by simp),if_neg (by rw [hb];simp)];rfl))
      obtain ⟨tx,htx⟩ : ∃ tx,decW fa = tx := ⟨_,rfl⟩
      have HT := Lib.hid htx
      have HTL : Hid (tx.length ≤ 10) := Lib.hid (by rw [← htx];exact decW_len hb)
      clear hb htx
      go_wp2_with (first
       | (go_at_call 54;refine (isnum_as HB _).mono ?_;rintro e w9 ⟨rfl,rfl⟩)
       | (go_at_call 55;refine (itoa_as HT HB _ (hE.on hbk3)).mono ?_;rintro e w5 ⟨rfl,hb5⟩;have hown5 := own_on hown3 hb5;have hb6 := hbk3.trans (hb5.mono hbk3.size);clear hb5)
       | (at_builtin;go_loud (refine wpList_append_own _ rfl _ _ 37 rfl w.heap.size 9 i0 (.string ⟨#[]⟩) 1 16 Tryz.underlying37 hi0 hz0 hz1 hz2 rfl (by decide) _ _ _ rfl (hown5.alloc _) ⟨w5.heap.size,0,none⟩ 1 1 [.string ⟨tx.toArray⟩] rfl rfl (cells_at rfl _ _) ?c2 ?c3 ?c4 ?c5 ?_)))
      case c2 => intro u hu;simp at hu;subst hu;rfl
      case c3 => unfold maxLen;omega
      case c4 => omega
      case c5 => have := hb6.size;simp;omega
      intro v' w6 hown6 hgrow _
      have hbk6 := (hb6.alloc hb6.size _).grown hgrow (by have := hb6.size;simp;omega) (fun j hj => (hown5.lt j hj).1)
      obtain ⟨A4,c4,rfl,-⟩ := own_sl hown6
      clear hown3 hown5 hgrow hb6 d0 hbk3 hfc
      go_wp2
      go_roundw
      case rel => exact ⟨k + 1,dn ++ [inou,tx],by omega,by go_num,by rw [← HT.out];exact HG,Lib.hid (fun x hx => by rcases List.mem_append.1 hx with hx | hx;exact HL.out x hx;simp at hx;rcases hx with rfl | rfl;decide;have := HTL.out;omega),⟨_,_,rfl⟩,by simpa [strc,inou,Nat.mul_add] using hown6,hbk6⟩
      case measure => simp [intOf];omega
    ·have q1' : (fk == 1) = false := by rw [beq_eq_false_iff_ne];exact q1
     have q2' : (fk == 2) = false := by rw [beq_eq_false_iff_ne];exact q2
     have HE := Lib.hid (HBAD.out 222 (by unfold fltT;rw [if_pos ⟨q1,q2⟩]))
     clear q1 q2 hb
     go_wp2
     go_ret2
     exact ⟨by rw [HE.out];exact rfl,hbl.alloc hbl.size _⟩
  ·obtain rfl : k = N := by omega
   have j1 : ¬ (k : Int) < (k : Int) := by omega
   obtain ⟨ls,h1,h2⟩ := HM.out
   have hdl : dn.length = 2 * k := by have := hown.1;simp at this;omega
   have hj : (join 32 dn).length ≤ 140737488355328 := Nat.le_trans (join_le 32 20 dn HL.out) (by rw [hdl];omega)
   have hT : joined (fltsT l) = .ok (join 32 dn) := by
    unfold fltsT joined
    rw [← List.take_of_length_le (l := l) (i := k) (by rw [HN.out];exact Nat.le_refl _),h1,h2]
   have HJ := Lib.hid (join_own 32 dn hown (by omega) hj)
   have HT := Lib.hid hT
   clear h1 h2 hdl hj hT hown
   go_wp2_with (go_at_call 37;refine HJ.out.mono ?_;rintro e w2 ⟨rfl,hb2⟩;unfold strc)
   go_ret2
   exact ⟨by rw [HT.out];exact rfl,hbl.trans (hb2.mono hbl.size)⟩
end Go.Proofs.YtpkmekdpmkfcdaaGreatDoor.Sr
namespace Go.Proofs.YtpkmekdpmkfcdaaGreatDoor.Sr
set_option linter.unusedVariables false
set_option linter.unusedSimpArgs false
open Go.RowKit Go.Proofs.YtpkmekdpmkfcdaaGreatDoor.Wd Go.Proofs.YtpkmekdpmkfcdaaGreatDoor.Px Go.Proofs.YtpkmekdpmkfcdaaGreatDoor.By Go.Proofs.YtpkmekdpmkfcdaaGreatDoor.En Go.Proofs.YtpkmekdpmkfcdaaGreatDoor.Pl Go.Proofs.YtpkmekdpmkfcdaaGreatDoor.Pf Go.Proofs.YtpkmekdpmkfcdaaGreatDoor.Sc
theorem has_as {t : List UInt8} {c : UInt8} {b : Bool} (h : Hid (decide (c ∈ t) = b)) (w : World) :
  Calls Tryz.prog 29 #[.string ⟨t.toArray⟩,.string ⟨#[c]⟩] w fun e w' => e = .returned (.bool b) ∧ w' = w := by
 have := Tryz.strings_Contains_one ⟨t.toArray⟩ c w
 rw [show (⟨t.toArray⟩ : ByteArray).data.toList = t from rfl] at this
 have e : decide (0 ≤ Lib.indexByte t c) = b := by
  rw [← h.out]
  rcases index_spec c t with ⟨h1,h2⟩ | ⟨p,h1,h2,h3,h4⟩
  ·rw [h1,decide_eq_false h2];rfl
  ·rw [h1,decide_eq_true (by rw [h3];simp : c ∈ t)]
   exact decide_eq_true (by omega)
 rwa [e] at this
theorem hexed_as {b t : List UInt8} {n : Nat} (h : Hid (hexO b = t)) (hn : Hid (b.length = n)) (A : Option Addr) (c : Nat) (w : World) (hb : n ≤ 2000000) (hc : n ≤ c) (hs : Shows cel w w.heap.size A b) :
  Calls Tryz.prog 64 #[.slice A n c] w fun e w' => e = .returned (.string ⟨t.toArray⟩) ∧ Below w.heap.size w w' := by
 have hn := hn.out
 subst hn
 have := hexed_any b A c w hb hc hs
 rwa [h.out] at this
theorem hexO_len (b : List UInt8) : (hexO b).length ≤ 2 * b.length + 1 := by
 by_cases h : b = []
 ·subst h;decide
 ·rw [hexO_ne h]
  clear h
  induction b with
  | nil => simp
  | cons c r ih => rw [List.flatMap_cons,List.length_append,List.length_cons];simp only [hx,List.length_cons,List.length_nil];omega
theorem pX_pT {f : Int} {h l : Nat} {b : Int} (hh : h < 18446744073709551616) (hl : l < 18446744073709551616) : pX f h l b = pT f h l b := by
 cases hv : vP f h l b with
 | false => rw [pT_no hv];unfold pX;rw [if_neg (by rw [hv];simp)]
 | true =>
  obtain ⟨hvA,-⟩ := (vP_iff f h l b).1 hv
  rw [pX_of hv,pT_yes hv,prT_yes hvA]
  unfold prP
  rw [if_pos (okP_num hv hh hl)]
theorem chgT_eq {c : Chg} {f nm : List UInt8} {kb pb : Bool} (h1 : 1 ≤ c.kind ∧ c.kind ≤ 5) (hf : chgForm c.kind.toNat = f) (hn : chgNames.getD (c.kind.toNat - 1) [] = nm) (hk : decide (72 ∈ f) = kb) (hp : decide (80 ∈ f) = pb) :
  chgT c = if (kb = false ∧ (c.key ≠ [] ∨ c.side ≠ 0)) ∨ (pb = false ∧ ¬ (c.pf = 0 ∧ c.ph = 0 ∧ c.pl = 0 ∧ c.pb = 0)) then .error 228
   else if numOk c.link = false ∨ numOk c.side = false then .error 223
   else if pb = true ∧ vP c.pf c.ph c.pl c.pb = false then .error 70
   else .ok ([nm,decW c.link] ++ (if kb = true then [hexO c.key,decW c.side] else []) ++ (if pb = true then [pX c.pf c.ph c.pl c.pb] else [])) := by
 unfold chgT
 rw [if_neg (by rw [Decidable.not_not];exact h1),hf,hn]
 subst hk hp
 simp only [decide_eq_false_iff_not,decide_eq_true_eq]
set_option maxRecDepth 100000 in
set_option maxHeartbeats 4000000 in
theorem changeof_any (c : Chg) (A : Option Addr) (cc : Nat) (w : World) (hE : Env w) (hT : Tabs w) (hl : c.key.length ≤ 2000000) (hc : c.key.length ≤ cc) (hs : Shows cel w w.heap.size A c.key) (hph : c.ph < 18446744073709551616) (hpl : c.pl < 18446744073709551616) :
  Calls Tryz.prog 36 #[.agg (chC c (.slice A c.key.length cc))] w fun e w' => TextR (joined (chgT c)) e ∧ Below w.heap.size w w' := by
 obtain ⟨ck,lk,sd,key,pf,ph,pl,pq⟩ := c
 simp only at hl hc hs hph hpl
 simp only [chC]
 obtain ⟨jr,hjr⟩ : ∃ r,joined (chgT ⟨ck,lk,sd,key,pf,ph,pl,pq⟩) = r := ⟨_,rfl⟩
 rw [hjr]
 have HJ := Lib.hid hjr
 obtain ⟨i0,hi0,hz0,hz1,hz2⟩ := info_parts infoStr
 obtain ⟨N,hN⟩ : ∃ N,key.length = N := ⟨_,rfl⟩
 have HNN := Lib.hid hN
 rw [hN] at hl hc ⊢
 by_cases h1 : ck < 1
 ·have hv : chgT ⟨ck,lk,sd,key,pf,ph,pl,pq⟩ = .error 222 := by unfold chgT;rw [if_pos (by simp only;omega)]
  rw [hv] at hjr
  subst hjr
  go_enter Tryz.func36,Tryz.ntmps36
  go_wp2
  go_ret2
  exact ⟨rfl,one w _⟩
 ·by_cases h2 : 5 < ck
  ·have hv : chgT ⟨ck,lk,sd,key,pf,ph,pl,pq⟩ = .error 222 := by unfold chgT;rw [if_pos (by simp only;omega)]
   rw [hv] at hjr
   subst hjr
   go_enter Tryz.func36,Tryz.ntmps36
   go_wp2
   go_ret2
   exact ⟨rfl,one w _⟩
  ·obtain ⟨k0,hk0⟩ : ∃ k0 : Nat,ck = (k0 : Int) + 1 := ⟨ck.toNat - 1,by omega⟩
   have hk5 : k0 < 5 := by omega
   obtain ⟨nm,hnm⟩ : ∃ x,chgNames[k0]? = some x := ⟨_,List.getElem?_eq_getElem (by show k0 < 5;exact hk5)⟩
   obtain ⟨f,hf⟩ : ∃ f,chgForm (k0 + 1) = f := ⟨_,rfl⟩
   obtain ⟨t0,t1⟩ := hT.ch k0 nm hnm
   rw [hf] at t1
   obtain ⟨kb,hkb⟩ : ∃ b,decide (72 ∈ f) = b := ⟨_,rfl⟩
   obtain ⟨pb,hpb⟩ : ∃ b,decide (80 ∈ f) = b := ⟨_,rfl⟩
   have HKB := Lib.hid hkb
   have HPB := Lib.hid hpb
   have hnl : nm.length ≤ 10 := by
    have : k0 = 0 ∨ k0 = 1 ∨ k0 = 2 ∨ k0 = 3 ∨ k0 = 4 := by omega
    rcases this with rfl | rfl | rfl | rfl | rfl <;> (injection hnm with hnm;subst hnm;decide)
   have hnot : ¬ (kb = true ∧ pb = true) := by
    have : k0 = 0 ∨ k0 = 1 ∨ k0 = 2 ∨ k0 = 3 ∨ k0 = 4 := by omega
    rcases this with rfl | rfl | rfl | rfl | rfl <;> (subst hf hkb hpb;decide)
   have hTT := chgT_eq (c := ⟨ck,lk,sd,key,pf,ph,pl,pq⟩) (f := f) (nm := nm) (by simp only;omega) (by simp only;rw [hk0];exact hf) (by simp only;rw [hk0,List.getD_eq_getElem?_getD];show (chgNames[k0]?).getD [] = nm;rw [hnm];rfl) hkb hpb
   simp only at hTT
   have HT := Lib.hid hTT
   clear hTT
   have hw1 : IntKind.i64.wrap ((k0 : Int) + 1 - 1) = (k0 : Int) := by rw [Int.add_sub_cancel];exact IntWalk.i64_in _ ⟨by omega,by omega⟩
   have j1 : ¬ (ck < 1) := by omega
   have j2 : ¬ (5 < ck) := by omega
   have j3 : IntKind.i64.wrap (ck - 1) = (k0 : Int) := by rw [hk0];exact hw1
   have j4 : (k0 : Int) < 5 := by omega
   clear hw1 hf hkb hpb hnm hk0 h1 h2 hjr
   have k0w := keepc (one w (.cells #[.int .i64 ck,.int .i64 lk,.int .i64 sd,.slice A N cc,.int .i64 pf,.int .u64 (ph : Int),.int .u64 (pl : Int),.int .i64 pq] 92)) t0
   have k1w := keepc (one w (.cells #[.int .i64 ck,.int .i64 lk,.int .i64 sd,.slice A N cc,.int .i64 pf,.int .u64 (ph : Int),.int .u64 (pl : Int),.int .i64 pq] 92)) t1
   go_enter Tryz.func36,Tryz.ntmps36
   go_upto_region 4 with fail
   have hb0 : Below w.heap.size w ((w.alloc (.cells #[.int .i64 ck,.int .i64 lk,.int .i64 sd,.slice A N cc,.int .i64 pf,.int .u64 (ph : Int),.int .u64 (pl : Int),.int .i64 pq] 92)).alloc (.cells #[.string ⟨nm.toArray⟩,.string ⟨f.toArray⟩] 137)) := (one w _).alloc (by simp) _
   have hC0 : Blk w.heap.size #[.int .i64 ck,.int .i64 lk,.int .i64 sd,.slice A N cc,.int .i64 pf,.int .u64 (ph : Int),.int .u64 (pl : Int),.int .i64 pq] 92 ((w.alloc (.cells #[.int .i64 ck,.int .i64 lk,.int .i64 sd,.slice A N cc,.int .i64 pf,.int .u64 (ph : Int),.int .u64 (pl : Int),.int .i64 pq] 92)).alloc (.cells #[.string ⟨nm.toArray⟩,.string ⟨f.toArray⟩] 137)) := Blk.on (blk_new w _ _) (one _ _)
   have hR0 : Blk (w.heap.size + 1) #[.string ⟨nm.toArray⟩,.string ⟨f.toArray⟩] 137 ((w.alloc (.cells #[.int .i64 ck,.int .i64 lk,.int .i64 sd,.slice A N cc,.int .i64 pf,.int .u64 (ph : Int),.int .u64 (pl : Int),.int .i64 pq] 92)).alloc (.cells #[.string ⟨nm.toArray⟩,.string ⟨f.toArray⟩] 137)) := by
    have := blk_new (w.alloc (.cells #[.int .i64 ck,.int .i64 lk,.int .i64 sd,.slice A N cc,.int .i64 pf,.int .u64 (ph : Int),.int .u64 (pl : Int),.int .i64 pq] 92)) #[.string ⟨nm.toArray⟩,.string ⟨f.toArray⟩] 137
    rwa [World.size_alloc] at this
   generalize ((w.alloc (.cells #[.int .i64 ck,.int .i64 lk,.int .i64 sd,.slice A N cc,.int .i64 pf,.int .u64 (ph : Int),.int .u64 (pl : Int),.int .i64 pq] 92)).alloc (.cells #[.string ⟨nm.toArray⟩,.string ⟨f.toArray⟩] 137)) = W0 at hb0 hC0 hR0 ⊢
   clear t0 t1 k0w k1w
   have r1 : W0.cell? ⟨w.heap.size + 1,1,none⟩ = some (.string ⟨f.toArray⟩) := hR0.cell rfl
   have a1 := after_cell r1
   refine wp_region_after (by kernel_rfl) (by kernel_rfl) ?_
   repeat (go_big_quiet_step ((first
    | (go_at_call 29;with_reducible exact after_same (has_as HKB _))
    | (go_at_call 29;with_reducible exact after_same (has_as HPB _)))))
   refine wpQuiet_nil ?_
   rintro _ ⟨z,rfl⟩
   have hC1 := hC0.on z.b
   have hR1 := hR0.on z.b
   have hb1 := hb0.trans (z.b.mono hb0.size)
   clear r1 a1 hC0 hR0 hb0
   generalize z.w = W1 at hC1 hR1 hb1 ⊢
   clear z
   have e0 : W1.cell? ⟨w.heap.size,0,none⟩ = some (.int .i64 ck) := hC1.cell rfl
   have e1 : W1.cell? ⟨w.heap.size,1,none⟩ = some (.int .i64 lk) := hC1.cell rfl
   have e2 : W1.cell? ⟨w.heap.size,2,none⟩ = some (.int .i64 sd) := hC1.cell rfl
   have e3 : W1.cell? ⟨w.heap.size,3,none⟩ = some (.slice A N cc) := hC1.cell rfl
   have e4 : W1.cell? ⟨w.heap.size,4,none⟩ = some (.int .i64 pf) := hC1.cell rfl
   have e5 : W1.cell? ⟨w.heap.size,5,none⟩ = some (.int .u64 (ph : Int)) := hC1.cell rfl
   have e6 : W1.cell? ⟨w.heap.size,6,none⟩ = some (.int .u64 (pl : Int)) := hC1.cell rfl
   have e7 : W1.cell? ⟨w.heap.size,7,none⟩ = some (.int .i64 pq) := hC1.cell rfl
   cases kb with
   | true =>
    obtain rfl : pb = false := by cases pb;rfl;exact absurd ⟨rfl,rfl⟩ hnot
    clear HKB HPB hnot
    by_cases hz : pf = 0 ∧ ph = 0 ∧ pl = 0 ∧ pq = 0
    ·obtain ⟨rfl,rfl,rfl,rfl⟩ := hz
     obtain ⟨bl,hbl⟩ : ∃ x,numOk lk = x := ⟨_,rfl⟩
     obtain ⟨bs,hbs⟩ : ∃ x,numOk sd = x := ⟨_,rfl⟩
     have HBL := Lib.hid hbl
     have HBS := Lib.hid hbs
     rw [hbl,hbs] at HT
     clear hbl hbs
     cases bl with
     | false =>
      have HE : Hid (jr = .error 223) := Lib.hid (by rw [← HJ.out,HT.out,if_neg (by simp),if_pos (.inl rfl)];rfl)
      clear HT HJ
      go_wp2_with (go_at_call 54;first | (with_reducible refine (isnum_as HBL _).mono ?_;rintro e w9 ⟨rfl,hw9⟩;rw [hw9];clear hw9) | (with_reducible refine (isnum_as HBS _).mono ?_;rintro e w9 ⟨rfl,hw9⟩;rw [hw9];clear hw9))
      go_ret2
      exact ⟨by rw [HE.out];exact rfl,hb1⟩
     | true =>
      cases bs with
      | false =>
       have HE : Hid (jr = .error 223) := Lib.hid (by rw [← HJ.out,HT.out,if_neg (by simp),if_pos (.inr rfl)];rfl)
       clear HT HJ
       go_wp2_with (go_at_call 54;first | (with_reducible refine (isnum_as HBL _).mono ?_;rintro e w9 ⟨rfl,hw9⟩;rw [hw9];clear hw9) | (with_reducible refine (isnum_as HBS _).mono ?_;rintro e w9 ⟨rfl,hw9⟩;rw [hw9];clear hw9))
       go_ret2
       exact ⟨by rw [HE.out];exact rfl,hb1⟩
      | true =>
       have HE : Hid (jr = .ok (join 32 [nm,decW lk,hexO key,decW sd])) := Lib.hid (by rw [← HJ.out,HT.out,if_neg (by simp),if_neg (by simp),if_neg (by simp)];rfl)
       clear HT HJ
       go_upto_region 9 with (go_at_call 54;first | (with_reducible refine (isnum_as HBL _).mono ?_;rintro e w9 ⟨rfl,hw9⟩;rw [hw9];clear hw9) | (with_reducible refine (isnum_as HBS _).mono ?_;rintro e w9 ⟨rfl,hw9⟩;rw [hw9];clear hw9))
       obtain ⟨tl,htl⟩ : ∃ t,decW lk = t := ⟨_,rfl⟩
       obtain ⟨ts,hts⟩ : ∃ t,decW sd = t := ⟨_,rfl⟩
       obtain ⟨th,hth⟩ : ∃ t,hexO key = t := ⟨_,rfl⟩
       rw [htl,hts,hth] at HE
       have HTL := Lib.hid htl
       have HTS := Lib.hid hts
       have HTH := Lib.hid hth
       have hE1 := hE.on hb1
       have hd : Below W1.heap.size W1 W1.drew := (Below.refl _ W1).drew
       have n0 : W1.drew.cell? ⟨w.heap.size + 1,0,none⟩ = some (.string ⟨nm.toArray⟩) := (hR1.on hd).cell rfl
       have n1 : W1.drew.cell? ⟨w.heap.size,1,none⟩ = some (.int .i64 lk) := (hC1.on hd).cell rfl
       have HC1 := Lib.hid (hC1.on hd)
       have HR1 := Lib.hid (hR1.on hd)
       have hb2 := hb1.drew
       clear htl hts hth e0 e1 e2 e3 e4 e5 e6 e7 hC1 hR1 hd hE1
       go_cut [7] from 60 to 65 (fun v wx => ∃ D : Nat,v = .slice (some ⟨D,0,none⟩) 2 2 ∧ Hid (wx.ownsRow w.heap.size 9 1 (.slice (some ⟨D,0,none⟩) 2 2) 2 ([nm,tl].map strc) ∧ Blk w.heap.size #[.int .i64 ck,.int .i64 lk,.int .i64 sd,.slice A N cc,.int .i64 0,.int .u64 0,.int .u64 0,.int .i64 0] 92 wx ∧ Below w.heap.size w wx))
       case first =>
        go_region_law (first
         | (go_simp;go_at_call 55;with_reducible refine (itoa_as HTL HBL W1.drew (hE.on hb2)).mono ?_;rintro e w5 ⟨rfl,hb5⟩;have n5 : w5.cell? ⟨w.heap.size + 1,0,none⟩ = some (.string ⟨nm.toArray⟩) := (HR1.out.on hb5).cell rfl;have HC5 := Lib.hid (HC1.out.on hb5);have hb6 := hb2.trans (hb5.mono hb2.size)))
        all_goals (go_wp2_with fail;go_meet;exact ⟨_,rfl,Lib.hid ⟨⟨rfl,.inr ⟨_,_,_,rfl,hb6.size,blk_new w5 _ _,Nat.le_refl _,by decide,rfl,rfl⟩⟩,HC5.out.on (one _ _),hb6.alloc hb6.size _⟩⟩)
       obtain ⟨D,rfl,HX⟩ := hcut
       clear HR1 HC1 n0 n1
       go_upto_region 11 with fail
       obtain ⟨hown,hC,hbc⟩ := HX.out
       have hd : Below wc.heap.size wc wc.drew := (Below.refl _ wc).drew
       have m3 : wc.drew.cell? ⟨w.heap.size,3,none⟩ = some (.slice A N cc) := (hC.on hd).cell rfl
       have m2 : wc.drew.cell? ⟨w.heap.size,2,none⟩ = some (.int .i64 sd) := (hC.on hd).cell rfl
       have HCd := Lib.hid (hC.on hd)
       have HOd := Lib.hid (own_on hown hd)
       have hbd := hbc.drew
       have HSd := Lib.hid ((hs.below hbd).more hbd.size)
       have HTL2 : Hid (nm.length ≤ 10 ∧ tl.length ≤ 10 ∧ th.length ≤ 4000001 ∧ ts.length ≤ 10) := Lib.hid ⟨hnl,by rw [← HTL.out];exact decW_len HBL.out,by rw [← HTH.out];have := hexO_len key;have := HNN.out;omega,by rw [← HTS.out];exact decW_len HBS.out⟩
       clear hown hC hbc hd
       go_cut [7] from 67 to 75 (fun v wx => ∃ (D k : Nat),v = .slice (some ⟨D,0,none⟩) 4 k ∧ Hid (wx.ownsRow w.heap.size 9 1 (.slice (some ⟨D,0,none⟩) 4 k) 4 ([nm,tl,th,ts].map strc) ∧ Below w.heap.size w wx))
       case first =>
        go_region_law (first
         | (go_simp;go_at_call 64;with_reducible refine (hexed_as HTH HNN A cc wc.drew hl hc HSd.out).mono ?_;rintro e w6 ⟨rfl,hb6⟩;have n6 : w6.cell? ⟨w.heap.size,2,none⟩ = some (.int .i64 sd) := (HCd.out.on hb6).cell rfl;have hb7 := hbd.trans (hb6.mono hbd.size);have HO6 := Lib.hid (own_on HOd.out hb6))
         | (go_simp;go_at_call 55;with_reducible refine (itoa_as HTS HBS w6 (hE.on hb7)).mono ?_;rintro e w7 ⟨rfl,hb8⟩;have hb9 := hb7.trans (hb8.mono hb7.size);have hown7 := own_on HO6.out hb8)
         | (go_loud (refine step_append_lies _ rfl (.tmp 67) (.tmp 74) 37 rfl w.heap.size 9 i0 (.string ⟨#[]⟩) 1 16 Tryz.underlying37 hi0 hz0 hz1 hz2 rfl (by decide) _ 2 _ (by rfl) (hown7.alloc _) ⟨w7.heap.size,0,none⟩ 2 2 [.string ⟨th.toArray⟩,.string ⟨ts.toArray⟩] (by rfl) rfl (cells_at rfl _ _) (by intro u hu;simp at hu;rcases hu with rfl | rfl <;> rfl) (by omega) (by decide) (by omega) (by have := hb9.size;simp;omega) _ rfl ?_);intro g cap w9 hown9 hgrow hat hlt9;have hbA := (hb9.alloc hb9.size _).grown hgrow (by have := hb9.size;simp;omega) (fun j hj => (hown7.lt j hj).1)))
        all_goals (go_wp2_with fail;go_meet;exact ⟨_,_,rfl,Lib.hid ⟨hown9,hbA⟩⟩)
       obtain ⟨D2,k2,rfl,HX2⟩ := hcut
       clear m3 m2
       have HJN := Lib.hid (join_own 32 [nm,tl,th,ts] HX2.out.1 (by simp) (Nat.le_trans (join_le 32 4000001 _ (by
        have := HTL2.out
        intro y hy
        simp only [List.mem_cons,List.not_mem_nil,or_false] at hy
        rcases hy with rfl | rfl | rfl | rfl <;> omega)) (by simp)))
       go_wp2_with (go_at_call 37;refine HJN.out.mono ?_;rintro e w2 ⟨rfl,hb9⟩;unfold strc)
       go_ret2
       exact ⟨by rw [HE.out];exact rfl,HX2.out.2.trans (hb9.mono HX2.out.2.size)⟩
    ·have HE : Hid (jr = .error 228) := Lib.hid (by rw [← HJ.out,HT.out,if_pos (.inr ⟨rfl,hz⟩)];rfl)
     have HZ := Lib.hid hz
     clear HT HJ hz
     go_wp2_with fail
     all_goals first
      | exact absurd ⟨by assumption,by assumption,by assumption,by assumption⟩ HZ.out
      | (go_ret2;exact ⟨by rw [HE.out];exact rfl,hb1⟩)
   | false =>
    cases pb with
    | false =>
     clear HKB HPB hnot
     by_cases hz : N = 0 ∧ sd = 0 ∧ pf = 0 ∧ ph = 0 ∧ pl = 0 ∧ pq = 0
     ·obtain ⟨rfl,rfl,rfl,rfl,rfl,rfl⟩ := hz
      have hk0 : key = [] := List.eq_nil_of_length_eq_zero HNN.out
      obtain ⟨bl,hbl⟩ : ∃ x,numOk lk = x := ⟨_,rfl⟩
      have HBL := Lib.hid hbl
      have HBS : Hid (numOk 0 = true) := rfl
      rw [hbl] at HT
      clear hbl
      cases bl with
      | false =>
       have HE : Hid (jr = .error 223) := Lib.hid (by rw [← HJ.out,HT.out,if_neg (by simp [hk0]),if_pos (.inl rfl)];rfl)
       clear HT HJ hk0
       go_wp2_with (go_at_call 54;first | (with_reducible refine (isnum_as HBL _).mono ?_;rintro e w9 ⟨rfl,hw9⟩;rw [hw9];clear hw9) | (with_reducible refine (isnum_as HBS _).mono ?_;rintro e w9 ⟨rfl,hw9⟩;rw [hw9];clear hw9))
       go_ret2
       exact ⟨by rw [HE.out];exact rfl,hb1⟩
      | true =>
       have HE : Hid (jr = .ok (join 32 [nm,decW lk])) := Lib.hid (by rw [← HJ.out,HT.out,if_neg (by simp [hk0]),if_neg (by rw [HBS.out];simp),if_neg (by simp)];rfl)
       clear HT HJ hk0
       go_upto_region 9 with (go_at_call 54;first | (with_reducible refine (isnum_as HBL _).mono ?_;rintro e w9 ⟨rfl,hw9⟩;rw [hw9];clear hw9) | (with_reducible refine (isnum_as HBS _).mono ?_;rintro e w9 ⟨rfl,hw9⟩;rw [hw9];clear hw9))
       obtain ⟨tl,htl⟩ : ∃ t,decW lk = t := ⟨_,rfl⟩
       rw [htl] at HE
       have HTL := Lib.hid htl
       have hE1 := hE.on hb1
       have hd : Below W1.heap.size W1 W1.drew := (Below.refl _ W1).drew
       have n0 : W1.drew.cell? ⟨w.heap.size + 1,0,none⟩ = some (.string ⟨nm.toArray⟩) := (hR1.on hd).cell rfl
       have n1 : W1.drew.cell? ⟨w.heap.size,1,none⟩ = some (.int .i64 lk) := (hC1.on hd).cell rfl
       have HC1 := Lib.hid (hC1.on hd)
       have HR1 := Lib.hid (hR1.on hd)
       have hb2 := hb1.drew
       clear htl e0 e1 e2 e3 e4 e5 e6 e7 hC1 hR1 hd hE1
       go_cut [7] from 60 to 65 (fun v wx => ∃ D : Nat,v = .slice (some ⟨D,0,none⟩) 2 2 ∧ Hid (wx.ownsRow w.heap.size 9 1 (.slice (some ⟨D,0,none⟩) 2 2) 2 ([nm,tl].map strc) ∧ Blk w.heap.size #[.int .i64 ck,.int .i64 lk,.int .i64 0,.slice A 0 cc,.int .i64 0,.int .u64 0,.int .u64 0,.int .i64 0] 92 wx ∧ Below w.heap.size w wx))
       case first =>
        go_region_law (first
         | (go_simp;go_at_call 55;with_reducible refine (itoa_as HTL HBL W1.drew (hE.on hb2)).mono ?_;rintro e w5 ⟨rfl,hb5⟩;have n5 : w5.cell? ⟨w.heap.size + 1,0,none⟩ = some (.string ⟨nm.toArray⟩) := (HR1.out.on hb5).cell rfl;have HC5 := Lib.hid (HC1.out.on hb5);have hb6 := hb2.trans (hb5.mono hb2.size)))
        all_goals (go_wp2_with fail;go_meet;exact ⟨_,rfl,Lib.hid ⟨⟨rfl,.inr ⟨_,_,_,rfl,hb6.size,blk_new w5 _ _,Nat.le_refl _,by decide,rfl,rfl⟩⟩,HC5.out.on (one _ _),hb6.alloc hb6.size _⟩⟩)
       obtain ⟨D2,rfl,HX2⟩ := hcut
       clear HR1 HC1 n0 n1
       have HTL2 : Hid (nm.length ≤ 10 ∧ tl.length ≤ 10) := Lib.hid ⟨hnl,by rw [← HTL.out];exact decW_len HBL.out⟩
       have HJN := Lib.hid (join_own 32 [nm,tl] HX2.out.1 (by simp) (Nat.le_trans (join_le 32 4000001 _ (by
        have := HTL2.out
        intro y hy
        simp only [List.mem_cons,List.not_mem_nil,or_false] at hy
        rcases hy with rfl | rfl <;> omega)) (by simp)))
       go_wp2_with (go_at_call 37;refine HJN.out.mono ?_;rintro e w2 ⟨rfl,hb9⟩;unfold strc)
       go_ret2
       exact ⟨by rw [HE.out];exact rfl,HX2.out.2.2.trans (hb9.mono HX2.out.2.2.size)⟩
     ·have HE : Hid (jr = .error 228) := Lib.hid (by
       rw [← HJ.out,HT.out,if_pos]
       ·rfl
       ·by_cases h : key ≠ [] ∨ sd ≠ 0
        ·exact .inl ⟨rfl,h⟩
        ·refine .inr ⟨rfl,fun hq => hz ⟨?_,?_,hq⟩⟩
         ·rw [← HNN.out];by_cases e : key = [];rw [e];rfl;exact absurd (.inl e) h
         ·by_cases e : sd = 0;exact e;exact absurd (.inr e) h)
      have HZ := Lib.hid hz
      clear HT HJ hz
      go_wp2_with fail
      all_goals first
       | exact absurd (by omega) HZ.out
       | (go_ret2;exact ⟨by rw [HE.out];exact rfl,hb1⟩)
    | true =>
     clear HKB HPB hnot
     by_cases hz : N = 0 ∧ sd = 0
     ·obtain ⟨rfl,rfl⟩ := hz
      have hk0 : key = [] := List.eq_nil_of_length_eq_zero HNN.out
      obtain ⟨bl,hbl⟩ : ∃ x,numOk lk = x := ⟨_,rfl⟩
      have HBL := Lib.hid hbl
      have HBS : Hid (numOk 0 = true) := rfl
      rw [hbl] at HT
      clear hbl
      cases bl with
      | false =>
       have HE : Hid (jr = .error 223) := Lib.hid (by rw [← HJ.out,HT.out,if_neg (by simp [hk0]),if_pos (.inl rfl)];rfl)
       clear HT HJ hk0
       go_wp2_with (go_at_call 54;first | (with_reducible refine (isnum_as HBL _).mono ?_;rintro e w9 ⟨rfl,hw9⟩;rw [hw9];clear hw9) | (with_reducible refine (isnum_as HBS _).mono ?_;rintro e w9 ⟨rfl,hw9⟩;rw [hw9];clear hw9))
       go_ret2
       exact ⟨by rw [HE.out];exact rfl,hb1⟩
      | true =>
       obtain ⟨tl,htl⟩ : ∃ t,decW lk = t := ⟨_,rfl⟩
       have hJ2 : Hid (jr = if vP pf ph pl pq = false then .error 70 else .ok (join 32 [nm,tl,pX pf ph pl pq])) := Lib.hid (by
        rw [← HJ.out,HT.out,if_neg (by simp [hk0]),if_neg (by rw [HBS.out];simp),htl]
        cases vP pf ph pl pq <;> rfl)
       clear HT HJ hk0
       go_upto_region 9 with (go_at_call 54;first | (with_reducible refine (isnum_as HBL _).mono ?_;rintro e w9 ⟨rfl,hw9⟩;rw [hw9];clear hw9) | (with_reducible refine (isnum_as HBS _).mono ?_;rintro e w9 ⟨rfl,hw9⟩;rw [hw9];clear hw9))
       have HTL := Lib.hid htl
       have hE1 := hE.on hb1
       have hd : Below W1.heap.size W1 W1.drew := (Below.refl _ W1).drew
       have n0 : W1.drew.cell? ⟨w.heap.size + 1,0,none⟩ = some (.string ⟨nm.toArray⟩) := (hR1.on hd).cell rfl
       have n1 : W1.drew.cell? ⟨w.heap.size,1,none⟩ = some (.int .i64 lk) := (hC1.on hd).cell rfl
       have HC1 := Lib.hid (hC1.on hd)
       have HR1 := Lib.hid (hR1.on hd)
       have hb2 := hb1.drew
       clear htl e0 e1 e2 e3 e4 e5 e6 e7 hC1 hR1 hd hE1
       go_cut [7] from 60 to 65 (fun v wx => ∃ D : Nat,v = .slice (some ⟨D,0,none⟩) 2 2 ∧ Hid (wx.ownsRow w.heap.size 9 1 (.slice (some ⟨D,0,none⟩) 2 2) 2 ([nm,tl].map strc) ∧ Blk w.heap.size #[.int .i64 ck,.int .i64 lk,.int .i64 0,.slice A 0 cc,.int .i64 pf,.int .u64 (ph : Int),.int .u64 (pl : Int),.int .i64 pq] 92 wx ∧ Below w.heap.size w wx))
       case first =>
        go_region_law (first
         | (go_simp;go_at_call 55;with_reducible refine (itoa_as HTL HBL W1.drew (hE.on hb2)).mono ?_;rintro e w5 ⟨rfl,hb5⟩;have n5 : w5.cell? ⟨w.heap.size + 1,0,none⟩ = some (.string ⟨nm.toArray⟩) := (HR1.out.on hb5).cell rfl;have HC5 := Lib.hid (HC1.out.on hb5);have hb6 := hb2.trans (hb5.mono hb2.size)))
        all_goals (go_wp2_with fail;go_meet;exact ⟨_,rfl,Lib.hid ⟨⟨rfl,.inr ⟨_,_,_,rfl,hb6.size,blk_new w5 _ _,Nat.le_refl _,by decide,rfl,rfl⟩⟩,HC5.out.on (one _ _),hb6.alloc hb6.size _⟩⟩)
       obtain ⟨D,rfl,HX⟩ := hcut
       clear HR1 HC1 n0 n1
       obtain ⟨bv,hbv⟩ : ∃ x,vP pf ph pl pq = x := ⟨_,rfl⟩
       have HV := Lib.hid hbv
       rw [hbv] at hJ2
       clear hbv
       have m4 : wc.cell? ⟨w.heap.size,4,none⟩ = some (.int .i64 pf) := HX.out.2.1.cell rfl
       have m5 : wc.cell? ⟨w.heap.size,5,none⟩ = some (.int .u64 (ph : Int)) := HX.out.2.1.cell rfl
       have m6 : wc.cell? ⟨w.heap.size,6,none⟩ = some (.int .u64 (pl : Int)) := HX.out.2.1.cell rfl
       have m7 : wc.cell? ⟨w.heap.size,7,none⟩ = some (.int .i64 pq) := HX.out.2.1.cell rfl
       cases bv with
       | false =>
        go_wp2_with (go_at_call 65;refine (vvalid_as HV _ hph hpl).mono ?_;rintro e w6 ⟨rfl,hb6⟩;have hb7 := HX.out.2.2.trans (hb6.mono HX.out.2.2.size))
        go_ret2
        exact ⟨by rw [hJ2.out];exact rfl,hb7⟩
       | true =>
        obtain ⟨tp,htp⟩ : ∃ t,pT pf ph pl pq = t := ⟨_,rfl⟩
        have HTP := Lib.hid htp
        have HE : Hid (jr = .ok (join 32 [nm,tl,tp])) := Lib.hid (by rw [hJ2.out,if_neg (by simp),pX_pT hph hpl,htp])
        have hpr := fun W hEW => print_any pf ph pl pq W hEW hph hpl
        rw [htp] at hpr
        unfold strc at hpr
        have HTL2 : Hid (nm.length ≤ 10 ∧ tl.length ≤ 10 ∧ tp.length ≤ 43) := Lib.hid ⟨hnl,by rw [← HTL.out];exact decW_len HBL.out,by rw [← HTP.out];exact pT_len pf ph pl pq⟩
        clear htp hJ2
        go_wp2_with (first
         | (go_at_call 65;refine (vvalid_as HV _ hph hpl).mono ?_;rintro e w6 ⟨rfl,hb6⟩;have hb7 := HX.out.2.2.trans (hb6.mono HX.out.2.2.size);have HO6 := Lib.hid (own_on HX.out.1 hb6);have HC6 := HX.out.2.1.on hb6;have q4 : w6.cell? ⟨w.heap.size,4,none⟩ = some (.int .i64 pf) := HC6.cell rfl;have q5 : w6.cell? ⟨w.heap.size,5,none⟩ = some (.int .u64 (ph : Int)) := HC6.cell rfl;have q6 : w6.cell? ⟨w.heap.size,6,none⟩ = some (.int .u64 (pl : Int)) := HC6.cell rfl;have q7 : w6.cell? ⟨w.heap.size,7,none⟩ = some (.int .i64 pq) := HC6.cell rfl;clear HC6)
         | (go_at_call 66;refine (hpr _ (hE.on hb7)).mono ?_;rintro e w7 ⟨rfl,hb8⟩;have hb9 := hb7.trans (hb8.mono hb7.size);have hown7 := own_on HO6.out hb8;clear hb8)
         | (at_builtin;go_loud (refine wpList_append_own _ rfl _ _ 37 rfl w.heap.size 9 i0 (.string ⟨#[]⟩) 1 16 Tryz.underlying37 hi0 hz0 hz1 hz2 rfl (by decide) _ _ _ rfl (hown7.alloc _) ⟨w7.heap.size,0,none⟩ 1 1 [.string ⟨tp.toArray⟩] rfl rfl (cells_at rfl _ _) ?c2 ?c3 ?c4 ?c5 ?_)))
        case c2 => intro u hu;simp at hu;subst hu;rfl
        case c3 => decide
        case c4 => omega
        case c5 => have := hb9.size;simp;omega
        intro v' wA hownA hgrow _
        have hbA := (hb9.alloc hb9.size _).grown hgrow (by have := hb9.size;simp;omega) (fun j hj => (hown7.lt j hj).1)
        obtain ⟨A4,c4,rfl,-⟩ := own_sl hownA
        have HJN := Lib.hid (join_own 32 [nm,tl,tp] hownA (by simp) (Nat.le_trans (join_le 32 4000001 _ (by
         have := HTL2.out
         intro y hy
         simp only [List.mem_cons,List.not_mem_nil,or_false] at hy
         rcases hy with rfl | rfl | rfl <;> omega)) (by simp)))
        clear hownA hgrow hown7 hb9
        go_wp2_with (go_at_call 37;refine HJN.out.mono ?_;rintro e w2 ⟨rfl,hbB⟩;unfold strc)
        go_ret2
        exact ⟨by rw [HE.out];exact rfl,hbA.trans (hbB.mono hbA.size)⟩
     ·have HE : Hid (jr = .error 228) := Lib.hid (by
       rw [← HJ.out,HT.out,if_pos]
       ·rfl
       ·by_cases h : key ≠ [] ∨ sd ≠ 0
        ·exact .inl ⟨rfl,h⟩
        ·refine absurd ⟨?_,?_⟩ hz
         ·rw [← HNN.out];by_cases e : key = [];rw [e];rfl;exact absurd (.inl e) h
         ·by_cases e : sd = 0;exact e;exact absurd (.inr e) h)
      have HZ := Lib.hid hz
      clear HT HJ hz
      go_wp2_with fail
      all_goals first
       | exact absurd (by omega) HZ.out
       | (go_ret2;exact ⟨by rw [HE.out];exact rfl,hb1⟩)
end Go.Proofs.YtpkmekdpmkfcdaaGreatDoor.Sr
