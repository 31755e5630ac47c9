/- Contract: the words of one change. Contract: lists of changes. -/
import Derived.Test.YtpkmekdpmkfcdaaGreatDoorSmA
import Derived.Test.YtpkmekdpmkfcdaaGreatDoorMJ
namespace Go.Proofs.YtpkmekdpmkfcdaaGreatDoor.Sr
set_option linter.unusedVariables false
set_option linter.unusedSimpArgs false
open Go.RowKit Go.Proofs.YtpkmekdpmkfcdaaGreatDoor.Wd Go.Proofs.YtpkmekdpmkfcdaaGreatDoor.Px Go.Proofs.YtpkmekdpmkfcdaaGreatDoor.By Go.Proofs.YtpkmekdpmkfcdaaGreatDoor.En Go.Proofs.YtpkmekdpmkfcdaaGreatDoor.Pl Go.Proofs.YtpkmekdpmkfcdaaGreatDoor.Pf Go.Proofs.YtpkmekdpmkfcdaaGreatDoor.Sc
/-! ### the two tables -/
structure Tabs (w : World) : Prop where
 st : ∀ (i : Nat) x,stepNames[i]? = some x → w.cell? ⟨1,i * 2,none⟩ = some (.string ⟨x.toArray⟩) ∧ w.cell? ⟨1,i * 2 + 1,none⟩ = some (.string ⟨(stepForm (i + 1)).toArray⟩)
 ch : ∀ (i : Nat) x,chgNames[i]? = some x → w.cell? ⟨0,i * 2,none⟩ = some (.string ⟨x.toArray⟩) ∧ w.cell? ⟨0,i * 2 + 1,none⟩ = some (.string ⟨(chgForm (i + 1)).toArray⟩)
theorem Tabs.ls {w : World} (h : Tabs w) : 1 < w.heap.size := World.block_lt_of_cell? w ⟨_,_,none⟩ (h.st 0 _ rfl).1
theorem Tabs.lc {w : World} (h : Tabs w) : 0 < w.heap.size := World.block_lt_of_cell? w ⟨_,_,none⟩ (h.ch 0 _ rfl).1
theorem Tabs.on {w w' : World} (h : Tabs w) (hb : Below w.heap.size w w') : Tabs w' :=
 ⟨fun i x hx => ⟨keepc hb (h.st i x hx).1,keepc hb (h.st i x hx).2⟩,fun i x hx => ⟨keepc hb (h.ch i x hx).1,keepc hb (h.ch i x hx).2⟩⟩
theorem named_chg {g : Nat} {t : List UInt8} {K : Nat} (hK : Hid (named chgNames t = K)) (w : World) (hT : Tabs w) (hg : g = 0) :
  Calls Tryz.prog 78 #[.slice (some ⟨g,0,none⟩) 5 5,.string ⟨t.toArray⟩] w fun e w' => e = .returned (.int .i64 (K : Int)) ∧ Below w.heap.size w w' := by
 subst hg
 have := named_any 0 5 chgNames t w (Lib.hid rfl) (by omega) hT.lc (fun i x hx => ⟨(hT.ch i x hx).1,_,(hT.ch i x hx).2⟩)
 rwa [hK.out] at this
/-! ### a block of cells -/
theorem blk_cell {W : World} {R : Nat} {vs : Array Value} {t : TypeId} (h : W.heap[R]? = some (.cells vs t (0,0))) (j : Nat) : W.cell? ⟨R,j,none⟩ = vs[j]? := by simp [World.cell?,h]
theorem blk_open {W : World} {R : Nat} {vs : Array Value} {t : TypeId} (h : W.heap[R]? = some (.cells vs t (0,0))) (o : Nat) : W.frozen? ⟨R,o,none⟩ = false := by simp [World.frozen?,h]
theorem blk_lt {W : World} {R : Nat} {o : Obj} (h : W.heap[R]? = some o) : R < W.heap.size := (Array.getElem?_eq_some_iff.1 h).1
theorem blk_new (w : World) (vs : Array Value) (t : TypeId) : (w.alloc (.cells vs t)).heap[w.heap.size]? = some (.cells vs t (0,0)) := World.alloc_heap_new w _
/-- a change's cells -/
def chC (c : Chg) (kv : Value) : Array Value := #[.int .i64 c.kind,.int .i64 c.link,.int .i64 c.side,kv,.int .i64 c.pf,.int .u64 (c.ph : Int),.int .u64 (c.pl : Int),.int .i64 c.pb]
def ChgR (o : Except Int Chg) (w : World) (e : Ending) (w' : World) : Prop := match o with
 | .ok c => ∃ A k,e = .returned (.tuple #[.agg (chC c (.slice A c.key.length k)),.int .i64 0]) ∧ w'.ownsRow w.heap.size 5 1 (.slice A c.key.length k) c.key.length (c.key.map cel)
 | .error x => ∃ c A n k,e = .returned (.tuple #[.agg (chC c (.slice A n k)),.int .i64 x])
theorem chC_cells {W : World} {R : Nat} {c : Chg} {kv : Value} {t : TypeId} (h : W.heap[R]? = some (.cells (chC c kv) t (0,0))) :
  W.cell? ⟨R,0,none⟩ = some (.int .i64 c.kind) ∧ W.cell? ⟨R,1,none⟩ = some (.int .i64 c.link) ∧ W.cell? ⟨R,2,none⟩ = some (.int .i64 c.side) ∧ W.cell? ⟨R,3,none⟩ = some kv
  ∧ W.cell? ⟨R,4,none⟩ = some (.int .i64 c.pf) ∧ W.cell? ⟨R,5,none⟩ = some (.int .u64 (c.ph : Int)) ∧ W.cell? ⟨R,6,none⟩ = some (.int .u64 (c.pl : Int)) ∧ W.cell? ⟨R,7,none⟩ = some (.int .i64 c.pb) ∧ ∀ o,W.frozen? ⟨R,o,none⟩ = false :=
 ⟨(blk_cell h 0).trans rfl,(blk_cell h 1).trans rfl,(blk_cell h 2).trans rfl,(blk_cell h 3).trans rfl,(blk_cell h 4).trans rfl,(blk_cell h 5).trans rfl,(blk_cell h 6).trans rfl,(blk_cell h 7).trans rfl,blk_open h⟩
theorem Below.eight {B : Nat} {a w : World} {R : Nat} (h : Below B a w) (hR : B ≤ R) (v0 v1 v2 v3 v4 v5 v6 v7 : Value) : Below B a ((((((((w.setCell ⟨R,0,none⟩ v0).setCell ⟨R,1,none⟩ v1).setCell ⟨R,2,none⟩ v2).setCell ⟨R,3,none⟩ v3).setCell ⟨R,4,none⟩ v4).setCell ⟨R,5,none⟩ v5).setCell ⟨R,6,none⟩ v6).setCell ⟨R,7,none⟩ v7) :=
 (((((((h.setCell hR _).setCell hR _).setCell hR _).setCell hR _).setCell hR _).setCell hR _).setCell hR _).setCell hR _
theorem set_same {W : World} {R : Nat} {t : TypeId} {vs : Array Value} (h : W.heap[R]? = some (.cells vs t (0,0))) (j : Nat) (v : Value) (hj : vs[j]? = some v) : (W.setCell ⟨R,j,none⟩ v).heap[R]? = some (.cells vs t (0,0)) := by
 rw [heap_setCell_same W R j vs t v h]
 congr 2
 apply Array.ext
 ·simp
 ·intro i h1 h2
  obtain ⟨hlt,he⟩ := Array.getElem?_eq_some_iff.1 hj
  rw [Array.getElem_setIfInBounds]
  split
  ·rename_i e;subst e;exact he.symm
  ·rfl
theorem eight_same {W : World} {R : Nat} {t : TypeId} {v0 v1 v2 v3 v4 v5 v6 v7 : Value} (h : W.heap[R]? = some (.cells #[v0,v1,v2,v3,v4,v5,v6,v7] t (0,0))) :
  ((((((((W.setCell ⟨R,0,none⟩ v0).setCell ⟨R,1,none⟩ v1).setCell ⟨R,2,none⟩ v2).setCell ⟨R,3,none⟩ v3).setCell ⟨R,4,none⟩ v4).setCell ⟨R,5,none⟩ v5).setCell ⟨R,6,none⟩ v6).setCell ⟨R,7,none⟩ v7).heap[R]? = some (.cells #[v0,v1,v2,v3,v4,v5,v6,v7] t (0,0)) :=
 set_same (set_same (set_same (set_same (set_same (set_same (set_same (set_same h 0 v0 rfl) 1 v1 rfl) 2 v2 rfl) 3 v3 rfl) 4 v4 rfl) 5 v5 rfl) 6 v6 rfl) 7 v7 rfl
theorem eight_other {W : World} {R g : Nat} (hg : g ≠ R) (v0 v1 v2 v3 v4 v5 v6 v7 : Value) :
  ((((((((W.setCell ⟨R,0,none⟩ v0).setCell ⟨R,1,none⟩ v1).setCell ⟨R,2,none⟩ v2).setCell ⟨R,3,none⟩ v3).setCell ⟨R,4,none⟩ v4).setCell ⟨R,5,none⟩ v5).setCell ⟨R,6,none⟩ v6).setCell ⟨R,7,none⟩ v7).heap[g]? = W.heap[g]? := by
 have h : ∀ (W : World) (j : Nat) (v : Value),(W.setCell ⟨R,j,none⟩ v).heap[g]? = W.heap[g]? := fun W j v => Below.heap_setCell W ⟨R,j,none⟩ v g hg
 rw [h,h,h,h,h,h,h,h]
theorem str_at {f : List UInt8} {pos : Nat} {x : UInt8} {tb : ByteArray} (h : tb = ⟨f.toArray⟩) (hx : f[pos]? = some x) (hlt : pos < tb.size) : tb[pos]'hlt = x := by
 subst h
 have := St.get_at hlt
 rw [show (⟨f.toArray⟩ : ByteArray).data.toList = f from rfl,hx] at this
 injection this with this
 exact this.symm
theorem chgFlds_at (ch : Chg) {f : List UInt8} {ws : List (List UInt8)} {pos : Nat} {x : UInt8} {y : List UInt8} (hx : f[pos]? = some x) (hy : ws[pos]? = some y) :
  chgFlds ch (f.drop pos) (ws.drop pos) = match chgFld ch x y with
   | .ok c' => chgFlds c' (f.drop (pos + 1)) (ws.drop (pos + 1))
   | .error e => .error e := by
 obtain ⟨p1,rfl⟩ := List.getElem?_eq_some_iff.1 hx
 obtain ⟨p2,rfl⟩ := List.getElem?_eq_some_iff.1 hy
 rw [List.drop_eq_getElem_cons p1,List.drop_eq_getElem_cons p2,chgFlds]
 cases chgFld ch f[pos] ws[pos] <;> rfl
theorem four_set {W : World} {R : Nat} {c : Chg} {kv : Value} {t : TypeId} (h : W.heap[R]? = some (.cells (chC c kv) t (0,0))) (f : Int) (a b : Nat) (n : Int) :
  ((((W.setCell ⟨R,4,none⟩ (.int .i64 f)).setCell ⟨R,5,none⟩ (.int .u64 (a : Int))).setCell ⟨R,6,none⟩ (.int .u64 (b : Int))).setCell ⟨R,7,none⟩ (.int .i64 n)).heap[R]? = some (.cells (chC { c with pf := f,ph := a,pl := b,pb := n } kv) t (0,0)) :=
 (heap_setCell_same _ R 7 _ t _ (heap_setCell_same _ R 6 _ t _ (heap_setCell_same _ R 5 _ t _ (heap_setCell_same _ R 4 _ t _ h)))).trans rfl
theorem four_other (W : World) {R g : Nat} (hg : g ≠ R) (a b c d : Value) : ((((W.setCell ⟨R,4,none⟩ a).setCell ⟨R,5,none⟩ b).setCell ⟨R,6,none⟩ c).setCell ⟨R,7,none⟩ d).heap[g]? = W.heap[g]? := by
 have h : ∀ (W : World) (j : Nat) (v : Value),(W.setCell ⟨R,j,none⟩ v).heap[g]? = W.heap[g]? := fun W j v => Below.heap_setCell W ⟨R,j,none⟩ v g hg
 rw [h,h,h,h]
theorem parsep_as {t : List UInt8} {o : Option (Int × Nat × Int)} (h : Hid (prsP t = o)) (ht : t.length ≤ 140737488355328) (w : World) (hE : Env w) :
  Calls Tryz.prog 151 #[.string ⟨t.toArray⟩] w fun e w' => e = .returned (ofP o) ∧ Below w.heap.size w w' := by
 have := parse_any t ht w hE
 rwa [h.out] at this
/-- the result's cells are read at the end -/
theorem close_chg {W : World} {R : Nat} {vs : Array Value} {t : TypeId} (h : W.heap[R]? = some (.cells vs t (0,0))) {tmps : Array Value} {Qp : Ending → World → Prop} {v0 v1 v2 v3 v4 v5 v6 v7 : Value} (hv : vs = #[v0,v1,v2,v3,v4,v5,v6,v7])
  (x : Int) (h2 : (tmps[2]?).getD undef = .pointer (some ⟨R,0,none⟩)) (h3 : (tmps[3]?).getD undef = .int .i64 x)
  (hQ : ∀ W8 : World,W8.heap[R]? = some (.cells vs t (0,0)) → (∀ B a,B ≤ R → Below B a W → Below B a W8) → (∀ g,g ≠ R → W8.heap[g]? = W.heap[g]?) → Qp (.returned (.tuple #[.agg vs,.int .i64 x])) W8) :
  bodyPost Tryz.prog Tryz.f60 Qp .ret { tmps := tmps,defers := [] } ((((((((W.setCell ⟨R,0,none⟩ v0).setCell ⟨R,1,none⟩ v1).setCell ⟨R,2,none⟩ v2).setCell ⟨R,3,none⟩ v3).setCell ⟨R,4,none⟩ v4).setCell ⟨R,5,none⟩ v5).setCell ⟨R,6,none⟩ v6).setCell ⟨R,7,none⟩ v7) := by
 subst hv
 have h8 := eight_same h
 have hQ' := hQ _ h8 (fun B a hB hb => Below.eight hb hB v0 v1 v2 v3 v4 v5 v6 v7) (fun g hg => eight_other hg v0 v1 v2 v3 v4 v5 v6 v7)
 clear hQ h
 generalize ((((((((W.setCell ⟨R,0,none⟩ v0).setCell ⟨R,1,none⟩ v1).setCell ⟨R,2,none⟩ v2).setCell ⟨R,3,none⟩ v3).setCell ⟨R,4,none⟩ v4).setCell ⟨R,5,none⟩ v5).setCell ⟨R,6,none⟩ v6).setCell ⟨R,7,none⟩ v7) = W8 at h8 hQ' ⊢
 have e0 : W8.cell? ⟨R,0,none⟩ = some v0 := (blk_cell h8 0).trans rfl
 have e1 : W8.cell? ⟨R,1,none⟩ = some v1 := (blk_cell h8 1).trans rfl
 have e2 : W8.cell? ⟨R,2,none⟩ = some v2 := (blk_cell h8 2).trans rfl
 have e3 : W8.cell? ⟨R,3,none⟩ = some v3 := (blk_cell h8 3).trans rfl
 have e4 : W8.cell? ⟨R,4,none⟩ = some v4 := (blk_cell h8 4).trans rfl
 have e5 : W8.cell? ⟨R,5,none⟩ = some v5 := (blk_cell h8 5).trans rfl
 have e6 : W8.cell? ⟨R,6,none⟩ = some v6 := (blk_cell h8 6).trans rfl
 have e7 : W8.cell? ⟨R,7,none⟩ = some v7 := (blk_cell h8 7).trans rfl
 exact bodyPost_ret (v := .tuple #[.agg #[v0,v1,v2,v3,v4,v5,v6,v7],.int .i64 x]) (by simp [results,Tryz.results60,go_sem, *]) rfl hQ'
set_option maxRecDepth 20000 in
set_option maxHeartbeats 1600000 in
theorem change_any (l : List (List UInt8)) (A : Option Addr) (c : Nat) (w : World) (hE : Env w) (hT : Tabs w) (hl : l.length ≤ 2000000) (hc : l.length ≤ c) (hs : Shows strc w w.heap.size A l) (hw : ∀ x ∈ l,x.length ≤ 2000000) :
  Calls Tryz.prog 60 #[.slice A l.length c] w fun e w' => ChgR (chg l) w e w' ∧ Below w.heap.size w w' := by
 cases l with
 | nil =>
  have hz := one w (.cells (chC chg0 (.slice none 0 0)) 92)
  go_enter Tryz.func60,Tryz.ntmps60
  go_wp2
  exact bodyPost_ret (v := .tuple #[.agg (chC chg0 (.slice none 0 0)),.int .i64 222]) (by simp [results,Tryz.results60,go_sem,chC,chg0, *]) rfl ⟨⟨_,_,_,_,rfl⟩,hz⟩
 | cons a ws =>
  obtain ⟨N,hN⟩ : ∃ N,(a :: ws).length = N := ⟨_,rfl⟩
  rw [hN] at hl hc ⊢
  have HN := Lib.hid hN
  have i0 : (0 : Int) < (N : Int) := by have := hN;simp at this;omega
  obtain ⟨K,hK⟩ : ∃ K,named chgNames a = K := ⟨_,rfl⟩
  have HK := Lib.hid hK
  obtain ⟨bb,o,rfl,hbb,hcell⟩ := hs (by simp)
  have c0 := hcell 0 a rfl
  rw [Nat.add_zero] at c0
  unfold strc at c0
  have hbw : bb < w.heap.size := hbb
  clear hN hK
  go_enter Tryz.func60,Tryz.ntmps60
  go_upto_region 2 with fail
  have hbl := (one w (.cells (chC chg0 (.slice none 0 0)) 92)).drew
  have hB := (blk_new w (chC chg0 (.slice none 0 0)) 92)
  have hd0 : Below (w.alloc (.cells (chC chg0 (.slice none 0 0)) 92)).heap.size (w.alloc (.cells (chC chg0 (.slice none 0 0)) 92)) (w.alloc (.cells (chC chg0 (.slice none 0 0)) 92)).drew := (Below.refl _ _).drew
  have hB2 := (hd0.block w.heap.size (by simp)).trans hB
  have hT2 := hT.on hbl
  have hE2 := hE.on hbl
  have c02 := (hbl.cell (p := ⟨bb,o,none⟩) hbw).trans c0
  have hbn : bb ≠ w.heap.size := Nat.ne_of_lt hbw
  refine wp_region_still_tail 4 (by kernel_rfl) (by kernel_rfl) ?_
  simp only [List.take_succ_cons,List.take_zero,List.drop_succ_cons,List.drop_zero]
  change wpStill _ _ (w.alloc (.cells (chC chg0 (.slice none 0 0)) 92)).drew (fun a' => wpList _ _ _ _ a' (w.alloc (.cells (chC chg0 (.slice none 0 0)) 92)).drew) _ _
  clear hd0 hB
  generalize (w.alloc (.cells (chC chg0 (.slice none 0 0)) 92)).drew = wd at hbl hB2 hT2 hE2 c02 ⊢
  obtain ⟨R,hR⟩ : ∃ R,w.heap.size = R := ⟨_,rfl⟩
  rw [hR] at hB2 hbn ⊢
  have hRw : w.heap.size ≤ R := Nat.le_of_eq hR
  have hbw2 : bb < w.heap.size := hbw
  clear hR c0 hbw hbb
  repeat still_step
  try refine wpStill_nil ?_
  go_wp2_with fail
  refine (named_chg HK _ hT2 rfl).mono ?_
  rintro e w1 ⟨rfl,hb1⟩
  have hB1 := (hb1.block R (blk_lt hB2)).trans hB2
  have hT1 := hT2.on hb1
  have hE1 := hE2.on hb1
  have hbl1 := hbl.trans (hb1.mono hbl.size)
  clear hB2 hT2 hE2 c02 hbl hb1
  obtain ⟨e0,e1,e2,e3,e4,e5,e6,e7,fr⟩ := chC_cells hB1
  simp only [chg0] at e0 e1 e2 e3 e4 e5 e6 e7
  by_cases hK0 : K = 0
  ·have HC : Hid (chg (a :: ws) = .error 222) := Lib.hid (by rw [chg_cons,HK.out,if_pos hK0])
   subst hK0
   have hB1' := heap_setCell_same w1 R 0 _ _ (.int .i64 0) hB1
   go_wp2
   refine close_chg hB1' rfl 222 rfl rfl fun W8 h8 hb8 ho8 => ⟨?_,hb8 _ _ hRw (hbl1.setCell hRw _)⟩
   rw [HC.out]
   exact ⟨chg0,none,0,0,rfl⟩
  ·have hK5 : K ≤ 5 := by have := named_le chgNames a;rw [HK.out] at this;exact this
   obtain ⟨k0,rfl⟩ : ∃ k0,K = k0 + 1 := ⟨K - 1,by omega⟩
   obtain ⟨nm,hnm⟩ : ∃ x,chgNames[k0]? = some x := ⟨_,List.getElem?_eq_getElem (by show k0 < 5;omega)⟩
   have t1 := (hT1.ch k0 nm hnm).2
   obtain ⟨f,hf⟩ : ∃ f,chgForm (k0 + 1) = f := ⟨_,rfl⟩
   rw [hf] at t1
   obtain ⟨M,hM⟩ : ∃ M,f.length = M := ⟨_,rfl⟩
   have hM3 : M ≤ 3 := by
    rw [← hM,← hf]
    have : k0 = 0 ∨ k0 = 1 ∨ k0 = 2 ∨ k0 = 3 ∨ k0 = 4 := by omega
    rcases this with rfl | rfl | rfl | rfl | rfl <;> decide
   have hfx : ∀ x ∈ f,x = 76 ∨ x = 83 ∨ x = 72 ∨ x = 80 := by
    rw [← hf]
    have : k0 = 0 ∨ k0 = 1 ∨ k0 = 2 ∨ k0 = 3 ∨ k0 = 4 := by omega
    rcases this with rfl | rfl | rfl | rfl | rfl <;> decide
   obtain ⟨tb,htb⟩ : ∃ s : ByteArray,s = ⟨f.toArray⟩ := ⟨_,rfl⟩
   have hsz : tb.size = M := by rw [htb];exact hM
   rw [← htb] at t1
   have hBK := heap_setCell_same w1 R 0 _ _ (.int .i64 ((k0 : Int) + 1)) hB1
   have k5 : (k0 : Int) < 5 := by omega
   have k50 : k0 < 5 := by omega
   have kz : ((k0 : Int) + 1 == 0) = false := by rw [beq_eq_false_iff_ne];omega
   have HF := Lib.hid hf
   have HM := Lib.hid hM
   have HFX := Lib.hid hfx
   have HTB := Lib.hid htb
   have HSZ := Lib.hid hsz
   have hRg : R ≠ 0 := by have := hT.lc;omega
   by_cases hcnt : N = M + 1
   ·       -- LOOP
    have HWL : Hid (ws.length = M) := Lib.hid (by have := HN.out;simp at this;omega)
    have HC : Hid (chg (a :: ws) = chgFlds { chg0 with kind := ((k0 + 1 : Nat) : Int) } f ws) := Lib.hid (by rw [chg_cons,HK.out,if_neg hK0,HF.out,if_neg (by rw [HWL.out,HM.out];simp)])
    have ic : ((N : Int) != (M : Int) + 1) = false := by rw [bne_eq_false_iff_eq];omega
    have hBI := (heap_alloc_old (w1.setCell ⟨R,0,none⟩ (.int .i64 ((k0 : Int) + 1))) (.stringIter tb 0) (by have := blk_lt hB1;simpa using this)).trans hBK
    have hblI := (hbl1.setCell (p := ⟨R,0,none⟩) hRw (.int .i64 ((k0 : Int) + 1))).alloc (by have := hbl1.size;simpa using this) (.stringIter tb 0)
    have hII := World.iter_heap (w1.setCell ⟨R,0,none⟩ (.int .i64 ((k0 : Int) + 1))) tb 0
    have hRD : R < w1.heap.size := blk_lt hB1
    have hwD : w.heap.size ≤ w1.heap.size := hbl1.size
    have hNM : M + 1 ≤ N := by omega
    have hNM2 : N ≤ M + 1 := by omega
    clear hK0 hf hM hfx htb hnm hcnt
    go_wp2
    clear hsz
    clear e0 e1 e2 e3 e4 e5 e6 e7 fr t1 hB1 hBK hT1 hE1 hbl1
    obtain ⟨D,hD⟩ : ∃ D,w1.heap.size = D := ⟨_,rfl⟩
    rw [show (w1.setCell ⟨R,0,none⟩ (.int .i64 ((k0 : Int) + 1))).heap.size = D by simpa using hD] at hII
    rw [hD] at hRD hwD ⊢
    go_loopw [3] (fun ev wr => ∃ (pos : Nat) (ch : Chg) (kv : Value),pos ≤ M ∧ ev = .int .i64 0 ∧ Hid (chg (a :: ws) = chgFlds ch (f.drop pos) (ws.drop pos)) ∧ ItAt D tb pos wr ∧ wr.heap[R]? = some (.cells (chC ch kv) 92 (0,0)) ∧ Hid (wr.ownsRow (D + 1) 5 1 kv ch.key.length (ch.key.map cel)) ∧ Below w.heap.size w wr) (fun _ wr => tb.size - wr.iterPos D)
    case atStart => exact ⟨0,{ chg0 with kind := ((k0 + 1 : Nat) : Int) },.slice none 0 0,Nat.zero_le _,rfl,HC,hII,hBI,Lib.hid (World.ownsRow_nil _ _ _ _),hblI⟩
    case round =>
     obtain ⟨pos,ch,kv,hpos,rfl,HG,hI,hBr,HO,hbl⟩ := hrel
     have hI0 : wr.heap[D]? = some (.stringIter tb pos) := hI
     obtain ⟨Ak,ck,rfl,hk9⟩ := own_sl HO.out
     clear hII hBI hblI HC
     by_cases hlt : pos < M
     ·obtain ⟨x,hx⟩ : ∃ x,f[pos]? = some x := ⟨_,List.getElem?_eq_getElem (by rw [HM.out];exact hlt)⟩
      obtain ⟨y,hy⟩ : ∃ y,ws[pos]? = some y := ⟨_,List.getElem?_eq_getElem (by rw [HWL.out];exact hlt)⟩
      have hlt2 : pos < tb.size := by rw [HSZ.out];exact hlt
      have htx : tb[pos]'hlt2 = x := str_at HTB.out hx hlt2
      have hxx := HFX.out x (List.mem_of_getElem? hx)
      have hyl := hw y (List.mem_cons_of_mem _ (List.mem_of_getElem? hy))
      have hst := chgFlds_at ch hx hy
      rw [← HG.out] at hst
      have HST := Lib.hid hst
      have cy := (hbl.cell (p := ⟨bb,o + (pos + 1),none⟩) hbw2).trans (hcell (pos + 1) y (by simpa using hy))
      unfold strc at cy
      have ha : (tb[pos]'hlt2).toNat < 128 := by rw [htx];rcases hxx with rfl | rfl | rfl | rfl <;> decide
      have hnx : ∀ ty,(Instr.next (.pointer (some ⟨D,0,none⟩)) true ty).run Tryz.prog wr = .ok (.tuple #[.bool true,.int .i64 pos,.int .i32 (tb[pos]'hlt2).toNat]) (wr.iterAt D tb (pos + 1)) := fun ty => Lib.run_next_ascii_at wr _ tb pos ty hI0 hlt2 ha
      rw [htx] at hnx
      have hI2 := hI.next (pos + 1)
      have hB2 := (Lib.iterAt_other wr D R tb (pos + 1) (by omega)).trans hBr
      have hO2 := own_iter (D := D) (t := tb) (p := pos + 1) HO.out (Nat.lt_succ_self _)
      have hbl2 := Lib.below_iterAt hbl (k := D) hwD tb (pos + 1)
      have cy2 := (World.cell?_of_block (a := ⟨bb,o + (pos + 1),none⟩) (Lib.iterAt_other wr D bb tb (pos + 1) (by omega))).trans cy
      have hm : tb.size - (pos + 1) < tb.size - wr.iterPos D := by rw [hI.pos];omega
      have HMS := Lib.hid hm
      have hsz2 := Lib.iterAt_size wr D tb (pos + 1)
      have hRw2 : R < wr.heap.size := blk_lt hBr
      have hDw2 : D < wr.heap.size := blk_lt hI0
      generalize wr.iterAt D tb (pos + 1) = w2 at hnx hI2 hB2 hO2 hbl2 cy2 hsz2
      have hE2 := hE.on hbl2
      have hoy : (pos : Int) + 1 < (N : Int) := by omega
      obtain ⟨e0,e1,e2,e3,e4,e5,e6,e7,fr⟩ := chC_cells hB2
      have HY := Lib.hid hy
      clear hx hy hst cy hm hI hI0 hBr HO hbl htx ha
      rcases hxx with rfl | rfl | rfl | rfl
      ·obtain ⟨o1,ho1⟩ : ∃ o,numW y = o := ⟨_,rfl⟩
       have HOY := Lib.hid ho1
       clear ho1
       clear hcell hs hw
       go_wp2_with fail
       refine (number_as HOY (by omega) w2 hE2).mono ?_
       clear e0 e1 e2 e3 e4 e5 e6 e7 fr
       rintro e w3 ⟨rfl,hb3⟩
       have hB3 := (hb3.block R (blk_lt hB2)).trans hB2
       have hI3 : ItAt D tb (pos + 1) w3 := (hb3.block D (blk_lt hI2)).trans hI2
       have hO3 := own_on hO2 hb3
       have hbl3 := hbl2.trans (hb3.mono hbl2.size)
       have hs3 : D < w3.heap.size := by have := hb3.size;omega
       obtain ⟨e0,e1,e2,e3,e4,e5,e6,e7,fr⟩ := chC_cells hB3
       clear hb3 hB2 hI2 hO2 hbl2 cy2 hE2 hsz2
       cases o1 with
       | none =>
        have HE : Hid (chg (a :: ws) = .error 223) := Lib.hid (by rw [HST.out];unfold chgFld;rw [if_pos rfl,HOY.out])
        have hB4 : (w3.setCell ⟨R,1,none⟩ (.int .i64 0)).heap[R]? = some (.cells (chC { ch with link := 0 } (.slice Ak ch.key.length ck)) 92 (0,0)) := (heap_setCell_same w3 R 1 _ _ (.int .i64 0) hB3).trans rfl
        simp only [ofN]
        go_wp2
        refine close_chg hB4 rfl 223 rfl rfl fun W8 h8 hb8 ho8 => ⟨?_,hb8 _ _ hRw (hbl3.setCell hRw _)⟩
        rw [HE.out]
        exact ⟨{ ch with link := 0 },Ak,_,ck,rfl⟩
       | some n =>
        have hN2 : Hid (chg (a :: ws) = chgFlds { ch with link := (n : Int) } (f.drop (pos + 1)) (ws.drop (pos + 1))) := Lib.hid (by rw [HST.out];unfold chgFld;rw [if_pos rfl,HOY.out])
        have hB4 : (w3.setCell ⟨R,1,none⟩ (.int .i64 (n : Int))).heap[R]? = some (.cells (chC { ch with link := (n : Int) } (.slice Ak ch.key.length ck)) 92 (0,0)) := (heap_setCell_same w3 R 1 _ _ (.int .i64 (n : Int)) hB3).trans rfl
        have hI4 : ItAt D tb (pos + 1) (w3.setCell ⟨R,1,none⟩ (.int .i64 (n : Int))) := (Below.heap_setCell w3 ⟨R,1,none⟩ _ D (by show D ≠ R;omega)).trans hI3
        have hO4 := own_same (w' := w3.setCell ⟨R,1,none⟩ (.int .i64 (n : Int))) hO3 (fun g hg => Below.heap_setCell w3 ⟨R,1,none⟩ _ g (by have := (hO3.lt g hg).1;show g ≠ R;omega))
        have hbl4 := hbl3.setCell (p := ⟨R,1,none⟩) hRw (.int .i64 (n : Int))
        clear HST
        simp only [ofN]
        go_wp2
        go_roundw
        case rel => exact ⟨pos + 1,_,_,hlt,rfl,hN2,hI4,hB4,Lib.hid hO4,hbl4⟩
        case measure => rw [hI4.pos];exact HMS.out
      ·obtain ⟨o1,ho1⟩ : ∃ o,numW y = o := ⟨_,rfl⟩
       have HOY := Lib.hid ho1
       clear ho1
       clear hcell hs hw
       go_wp2_with fail
       refine (number_as HOY (by omega) w2 hE2).mono ?_
       clear e0 e1 e2 e3 e4 e5 e6 e7 fr
       rintro e w3 ⟨rfl,hb3⟩
       have hB3 := (hb3.block R (blk_lt hB2)).trans hB2
       have hI3 : ItAt D tb (pos + 1) w3 := (hb3.block D (blk_lt hI2)).trans hI2
       have hO3 := own_on hO2 hb3
       have hbl3 := hbl2.trans (hb3.mono hbl2.size)
       have hs3 : D < w3.heap.size := by have := hb3.size;omega
       obtain ⟨e0,e1,e2,e3,e4,e5,e6,e7,fr⟩ := chC_cells hB3
       clear hb3 hB2 hI2 hO2 hbl2 cy2 hE2 hsz2
       cases o1 with
       | none =>
        have HE : Hid (chg (a :: ws) = .error 223) := Lib.hid (by rw [HST.out];unfold chgFld;rw [if_neg (by decide),if_pos rfl,HOY.out])
        have hB4 : (w3.setCell ⟨R,2,none⟩ (.int .i64 0)).heap[R]? = some (.cells (chC { ch with side := 0 } (.slice Ak ch.key.length ck)) 92 (0,0)) := (heap_setCell_same w3 R 2 _ _ (.int .i64 0) hB3).trans rfl
        simp only [ofN]
        go_wp2
        refine close_chg hB4 rfl 223 rfl rfl fun W8 h8 hb8 ho8 => ⟨?_,hb8 _ _ hRw (hbl3.setCell hRw _)⟩
        rw [HE.out]
        exact ⟨{ ch with side := 0 },Ak,_,ck,rfl⟩
       | some n =>
        have hN2 : Hid (chg (a :: ws) = chgFlds { ch with side := (n : Int) } (f.drop (pos + 1)) (ws.drop (pos + 1))) := Lib.hid (by rw [HST.out];unfold chgFld;rw [if_neg (by decide),if_pos rfl,HOY.out])
        have hB4 : (w3.setCell ⟨R,2,none⟩ (.int .i64 (n : Int))).heap[R]? = some (.cells (chC { ch with side := (n : Int) } (.slice Ak ch.key.length ck)) 92 (0,0)) := (heap_setCell_same w3 R 2 _ _ (.int .i64 (n : Int)) hB3).trans rfl
        have hI4 : ItAt D tb (pos + 1) (w3.setCell ⟨R,2,none⟩ (.int .i64 (n : Int))) := (Below.heap_setCell w3 ⟨R,2,none⟩ _ D (by show D ≠ R;omega)).trans hI3
        have hO4 := own_same (w' := w3.setCell ⟨R,2,none⟩ (.int .i64 (n : Int))) hO3 (fun g hg => Below.heap_setCell w3 ⟨R,2,none⟩ _ g (by have := (hO3.lt g hg).1;show g ≠ R;omega))
        have hbl4 := hbl3.setCell (p := ⟨R,2,none⟩) hRw (.int .i64 (n : Int))
        clear HST
        simp only [ofN]
        go_wp2
        go_roundw
        case rel => exact ⟨pos + 1,_,_,hlt,rfl,hN2,hI4,hB4,Lib.hid hO4,hbl4⟩
        case measure => rw [hI4.pos];exact HMS.out
      ·clear hcell hs hw
       go_wp2_with fail
       refine (hex_any y (by omega) w2).mono ?_
       clear e0 e1 e2 e3 e4 e5 e6 e7 fr
       rintro e w3 ⟨hres,hb3⟩
       have hB3 := (hb3.block R (blk_lt hB2)).trans hB2
       have hI3 : ItAt D tb (pos + 1) w3 := (hb3.block D (blk_lt hI2)).trans hI2
       have hO3 := own_on hO2 hb3
       have hbl3 := hbl2.trans (hb3.mono hbl2.size)
       have hs3 : D < w3.heap.size := by have := hb3.size;omega
       obtain ⟨e0,e1,e2,e3,e4,e5,e6,e7,fr⟩ := chC_cells hB3
       have hs23 : D + 1 ≤ w2.heap.size := by have := hI2;have := blk_lt hI2;omega
       clear hb3 hB2 hI2 hO2 hbl2 cy2 hE2 hsz2
       cases ho1 : hexW y with
       | none =>
        rw [ho1] at hres
        obtain rfl := hres
        have HE : Hid (chg (a :: ws) = .error 225) := Lib.hid (by rw [HST.out];unfold chgFld;rw [if_neg (by decide),if_neg (by decide),if_pos rfl,ho1])
        have hB4 : (w3.setCell ⟨R,3,none⟩ (.slice none 0 0)).heap[R]? = some (.cells (chC { ch with key := [] } (.slice none 0 0)) 92 (0,0)) := (heap_setCell_same w3 R 3 _ _ (.slice none 0 0) hB3).trans rfl
        clear ho1
        go_wp2
        refine close_chg hB4 rfl 225 rfl rfl fun W8 h8 hb8 ho8 => ⟨?_,hb8 _ _ hRw (hbl3.setCell hRw _)⟩
        rw [HE.out]
        exact ⟨{ ch with key := [] },none,0,0,rfl⟩
       | some b =>
        rw [ho1] at hres
        obtain ⟨Ab,kb,rfl,hob⟩ := hres
        have hN2 : Hid (chg (a :: ws) = chgFlds { ch with key := b } (f.drop (pos + 1)) (ws.drop (pos + 1))) := Lib.hid (by rw [HST.out];unfold chgFld;rw [if_neg (by decide),if_neg (by decide),if_pos rfl,ho1])
        obtain ⟨nb,hnb⟩ : ∃ nb,b.length = nb := ⟨_,rfl⟩
        rw [hnb] at hob ⊢
        have hB4 : (w3.setCell ⟨R,3,none⟩ (.slice Ab nb kb)).heap[R]? = some (.cells (chC { ch with key := b } (.slice Ab nb kb)) 92 (0,0)) := (heap_setCell_same w3 R 3 _ _ (.slice Ab nb kb) hB3).trans rfl
        have hI4 : ItAt D tb (pos + 1) (w3.setCell ⟨R,3,none⟩ (.slice Ab nb kb)) := (Below.heap_setCell w3 ⟨R,3,none⟩ _ D (by show D ≠ R;omega)).trans hI3
        have hO4 := own_same (w' := w3.setCell ⟨R,3,none⟩ (.slice Ab nb kb)) (own_low hob hs23) (fun g hg => Below.heap_setCell w3 ⟨R,3,none⟩ _ g (by have := ((own_low hob hs23).lt g hg).1;show g ≠ R;omega))
        have hbl4 := hbl3.setCell (p := ⟨R,3,none⟩) hRw (.slice Ab nb kb)
        have HNB := Lib.hid hnb
        clear HST ho1 hnb
        go_wp2
        go_roundw
        case rel => exact ⟨pos + 1,{ ch with key := b },.slice Ab nb kb,hlt,rfl,hN2,hI4,hB4,Lib.hid (by show World.ownsRow _ _ _ _ _ b.length _;rw [HNB.out];exact hO4),hbl4⟩
        case measure => rw [hI4.pos];exact HMS.out
      ·obtain ⟨o1,ho1⟩ : ∃ o,prsP y = o := ⟨_,rfl⟩
       have HOY := Lib.hid ho1
       clear ho1
       clear hcell hs hw
       go_wp2_with fail
       refine (parsep_as HOY (by omega) w2 hE2).mono ?_
       clear e0 e1 e2 e3 e4 e5 e6 e7 fr
       rintro e w3 ⟨rfl,hb3⟩
       have hB3 := (hb3.block R (blk_lt hB2)).trans hB2
       have hI3 : ItAt D tb (pos + 1) w3 := (hb3.block D (blk_lt hI2)).trans hI2
       have hO3 := own_on hO2 hb3
       have hbl3 := hbl2.trans (hb3.mono hbl2.size)
       have hs3 : D < w3.heap.size := by have := hb3.size;omega
       obtain ⟨e0,e1,e2,e3,e4,e5,e6,e7,fr⟩ := chC_cells hB3
       clear hb3 hB2 hI2 hO2 hbl2 cy2 hE2 hsz2
       cases o1 with
       | none =>
        have HE : Hid (chg (a :: ws) = .error 70) := Lib.hid (by rw [HST.out];unfold chgFld;rw [if_neg (by decide),if_neg (by decide),if_neg (by decide),HOY.out])
        have hB4 := four_set hB3 0 0 0 0
        simp only [ofP]
        go_wp2
        refine close_chg hB4 rfl 70 rfl rfl fun W8 h8 hb8 ho8 => ⟨?_,hb8 _ _ hRw (((((hbl3.setCell hRw _).setCell hRw _).setCell hRw _).setCell hRw _))⟩
        rw [HE.out]
        exact ⟨{ ch with pf := 0,ph := 0,pl := 0,pb := 0 },Ak,_,ck,rfl⟩
       | some q =>
        obtain ⟨qf,qn,qb⟩ := q
        have hN2 : Hid (chg (a :: ws) = chgFlds { ch with pf := qf,ph := qn / 18446744073709551616,pl := qn % 18446744073709551616,pb := qb } (f.drop (pos + 1)) (ws.drop (pos + 1))) := Lib.hid (by rw [HST.out];unfold chgFld;rw [if_neg (by decide),if_neg (by decide),if_neg (by decide),HOY.out])
        simp only [ofP]
        generalize qn / 18446744073709551616 = q1 at hN2 ⊢
        generalize qn % 18446744073709551616 = q2 at hN2 ⊢
        have hB4 := four_set hB3 qf q1 q2 qb
        have hI4 : ItAt D tb (pos + 1) _ := (four_other w3 (show D ≠ R by omega) (.int .i64 qf) (.int .u64 (q1 : Int)) (.int .u64 (q2 : Int)) (.int .i64 qb)).trans hI3
        have hO4 := own_same hO3 (fun g hg => four_other w3 (show g ≠ R by have := (hO3.lt g hg).1;omega) (.int .i64 qf) (.int .u64 (q1 : Int)) (.int .u64 (q2 : Int)) (.int .i64 qb))
        have hbl4 := (((hbl3.setCell (p := ⟨R,4,none⟩) hRw (.int .i64 qf)).setCell (p := ⟨R,5,none⟩) hRw (.int .u64 (q1 : Int))).setCell (p := ⟨R,6,none⟩) hRw (.int .u64 (q2 : Int))).setCell (p := ⟨R,7,none⟩) hRw (.int .i64 qb)
        clear HST
        go_wp2
        go_roundw
        case rel => exact ⟨pos + 1,_,_,hlt,rfl,hN2,hI4,hB4,Lib.hid hO4,hbl4⟩
        case measure => rw [hI4.pos];exact HMS.out
     ·have hpm : pos = M := by omega
      have hE3 : Hid (chg (a :: ws) = .ok ch) := Lib.hid (by
       rw [HG.out,List.drop_of_length_le (by rw [HM.out];omega)];rfl)
      have hnx : ∀ ty,(Instr.next (.pointer (some ⟨D,0,none⟩)) true ty).run Tryz.prog wr = .ok (.tuple #[.bool false]) wr := fun ty => Lib.run_next_end_at wr _ tb pos ty hI0 (by rw [HSZ.out];omega)
      obtain ⟨e0,e1,e2,e3,e4,e5,e6,e7,fr⟩ := chC_cells hBr
      clear hI hI0 hpm hlt hcell hs hw
      go_wp2
      refine close_chg hBr rfl 0 rfl rfl fun W8 h8 hb8 ho8 => ⟨?_,hb8 _ _ hRw hbl⟩
      rw [hE3.out]
      exact ⟨Ak,ck,rfl,own_same (own_low HO.out (by omega)) fun g hg => ho8 g (by have := (HO.out.lt g hg).1;omega)⟩
   ·have HC : Hid (chg (a :: ws) = .error 226) := Lib.hid (by rw [chg_cons,HK.out,if_neg hK0,HF.out,if_pos (by have := HN.out;have := HM.out;simp at *;omega)])
    have ic : ((N : Int) != (M : Int) + 1) = true := by rw [bne_iff_ne];omega
    clear hK0 hf hM hfx htb hnm
    go_wp2
    refine close_chg hBK rfl 226 rfl rfl fun W8 h8 hb8 ho8 => ⟨?_,hb8 _ _ hRw (hbl1.setCell hRw _)⟩
    rw [HC.out]
    exact ⟨{ chg0 with kind := (k0 : Int) + 1 },none,0,0,rfl⟩
end Go.Proofs.YtpkmekdpmkfcdaaGreatDoor.Sr
namespace Go.Proofs.YtpkmekdpmkfcdaaGreatDoor.Sr
set_option linter.unusedVariables false
set_option linter.unusedSimpArgs false
open Go.RowKit Go.Proofs.YtpkmekdpmkfcdaaGreatDoor.Wd Go.Proofs.YtpkmekdpmkfcdaaGreatDoor.Px Go.Proofs.YtpkmekdpmkfcdaaGreatDoor.By Go.Proofs.YtpkmekdpmkfcdaaGreatDoor.En Go.Proofs.YtpkmekdpmkfcdaaGreatDoor.Pl Go.Proofs.YtpkmekdpmkfcdaaGreatDoor.Pf Go.Proofs.YtpkmekdpmkfcdaaGreatDoor.Sc
/-! ### rows of changes that were made -/
theorem own_kind {w : World} {base : Nat} {e : TypeId} {size n : Nat} {v : Value} {xs : List Value} (h : w.ownsRow base e size v n xs) {k : Nat} (hk : v.ownBlock = some k) : ∃ cells,w.heap[k]? = some (.cells cells e (0,0)) := by
 rcases h.2 with ⟨rfl,_⟩ | ⟨g,cap,cur,rfl,_,hh,_⟩
 ·simp [Value.ownBlock] at hk
 ·have : g = k := by simpa [Value.ownBlock] using hk
  subst this
  exact ⟨cur,hh⟩
/-- rows of two types share no block -/
theorem own_apart {w : World} {b b' : Nat} {e e' : TypeId} {s s' n n' : Nat} {v v' : Value} {xs xs' : List Value} (h : w.ownsRow b e s v n xs) (h' : w.ownsRow b' e' s' v' n' xs') (he : e ≠ e') {g : Nat} (hg : v.ownBlock = some g) : some g ≠ v'.ownBlock := fun e2 => by
 obtain ⟨c,hc⟩ := own_kind h hg
 obtain ⟨c',hc'⟩ := own_kind h' e2.symm
 rw [hc] at hc'
 injection hc' with hc'
 injection hc' with _ hc'
 exact he hc'
/-- no two of them share a block -/
def Apt (vs : List Value) : Prop := ∀ (i j : Nat) (v u : Value) (g : Nat),vs[i]? = some v → vs[j]? = some u → v.ownBlock = some g → u.ownBlock = some g → i = j
theorem Apt.nil : Apt [] := fun i j v u g h => by simp at h
theorem snoc_get {α : Type} {l : List α} {x y : α} {i : Nat} (h : (l ++ [x])[i]? = some y) : (l[i]? = some y ∧ i < l.length) ∨ (i = l.length ∧ y = x) := by
 rw [List.getElem?_append] at h
 split at h
 ·rename_i hi;exact .inl ⟨h,hi⟩
 ·rename_i hi
  have : i = l.length := by
   have := (List.getElem?_eq_some_iff.1 h).1
   simp at this;omega
  subst this
  simp at h
  exact .inr ⟨rfl,h.symm⟩
theorem Apt.snoc {vs : List Value} (h : Apt vs) {v : Value} (hv : ∀ (i : Nat) u g,vs[i]? = some u → u.ownBlock = some g → v.ownBlock ≠ some g) : Apt (vs ++ [v]) := fun i j a b g ha hb hga hgb => by
 rcases snoc_get ha with ⟨ha',-⟩ | ⟨rfl,rfl⟩
 ·rcases snoc_get hb with ⟨hb',-⟩ | ⟨rfl,rfl⟩
  ·exact h i j a b g ha' hb' hga hgb
  ·exact absurd hgb (hv i a g ha' hga)
 ·rcases snoc_get hb with ⟨hb',-⟩ | ⟨rfl,rfl⟩
  ·exact absurd hga (hv j b g hb' hgb)
  ·rfl
def cellsC (l : List Chg) (kvs : List Value) : List Value := (List.zipWith (fun c kv => (chC c kv).toList) l kvs).flatten
theorem cellsC_snoc {l : List Chg} {kvs : List Value} (h : kvs.length = l.length) (c : Chg) (kv : Value) : cellsC (l ++ [c]) (kvs ++ [kv]) = cellsC l kvs ++ (chC c kv).toList := by
 unfold cellsC
 rw [List.zipWith_append h.symm]
 simp
structure CRow (B : Nat) (v : Value) (l : List Chg) (kvs : List Value) (W : World) : Prop where
 len : kvs.length = l.length
 row : W.ownsRow B 92 8 v l.length (cellsC l kvs)
 own : ∀ (i : Nat) c kv,l[i]? = some c → kvs[i]? = some kv → W.ownsRow B 5 1 kv c.key.length (c.key.map cel)
 ap : Apt kvs
theorem CRow.nil (B : Nat) (W : World) : CRow B (.slice none 0 0) [] [] W := ⟨rfl,World.ownsRow_nil _ _ _ _,fun i c kv h => by simp at h,Apt.nil⟩
theorem CRow.on {B : Nat} {v : Value} {l : List Chg} {kvs : List Value} {W W' : World} (h : CRow B v l kvs W) (hb : Below W.heap.size W W') : CRow B v l kvs W' :=
 ⟨h.len,own_on h.row hb,fun i c kv hc hk => own_on (h.own i c kv hc hk) hb,h.ap⟩
/-- a change is appended -/
theorem CRow.add {B : Nat} {v v' : Value} {l : List Chg} {kvs : List Value} {W W' : World} (h : CRow B v l kvs W) {c : Chg} {kv : Value} (hk : W.ownsRow B 5 1 kv c.key.length (c.key.map cel))
  (hap : ∀ (i : Nat) u g,kvs[i]? = some u → u.ownBlock = some g → kv.ownBlock ≠ some g) (o : Obj) (hr : W'.ownsRow B 92 8 v' (l.length + 1) (cellsC l kvs ++ (chC c kv).toList)) (hg : (W.alloc o).grownBy W' v.ownBlock) : CRow B v' (l ++ [c]) (kvs ++ [kv]) W' := by
 have mv : ∀ {b n : Nat} {u : Value} {xs : List Value},W.ownsRow b 5 1 u n xs → W'.ownsRow b 5 1 u n xs := fun hu =>
  own_same (hu.alloc o) fun g hgu => hg.block g ((hu.alloc o).lt g hgu).2 (own_apart (hu.alloc o) (h.row.alloc o) (by decide) hgu)
 refine ⟨by simp [h.len],by rw [List.length_append,cellsC_snoc h.len];exact hr,fun i d ku hd hku => ?_,h.ap.snoc hap⟩
 rcases snoc_get hd with ⟨hd,hi⟩ | ⟨rfl,rfl⟩
 ·rcases snoc_get hku with ⟨hku,-⟩ | ⟨e,-⟩
  ·exact mv (h.own i d ku hd hku)
  ·have := h.len;omega
 ·rcases snoc_get hku with ⟨-,hi⟩ | ⟨-,rfl⟩
  ·have := h.len;omega
  ·exact mv hk
theorem infoChg : (Tryz.prog.info? 92).map (fun i => (i.zero,i.size,i.bytes)) = some (some (.agg (chC chg0 (.slice none 0 0))),8,80) := by kernel_rfl
def ListR (o : Except Int (List Chg)) (w : World) (e : Ending) (w' : World) : Prop := match o with
 | .ok l => ∃ A k kvs,e = .returned (.tuple #[.slice A l.length k,.int .i64 0]) ∧ CRow w.heap.size (.slice A l.length k) l kvs w'
 | .error x => e = .returned (.tuple #[.slice none 0 0,.int .i64 x])
/-! ### the loop of list -/
def LstAt (l : List (List UInt8)) (a i : Nat) (dn : List Chg) : Prop :=
 (i ≤ l.length ∧ a ≤ i ∧ chgs l = match mapE chg (splW ((l.take i).drop a) (l.drop i)) with
  | .ok x => .ok (dn ++ x)
  | .error e => .error e) ∨ (i = l.length + 1 ∧ chgs l = .ok dn)
theorem LstAt.start {l : List (List UInt8)} (h : l ≠ []) : LstAt l 0 0 [] := .inl ⟨Nat.zero_le _,Nat.le_refl _,by
 unfold chgs;rw [if_neg h]
 simp only [List.take_zero,List.drop_zero]
 cases mapE chg (splW [] l) <;> rfl⟩
theorem LstAt.word {l : List (List UInt8)} {a i : Nat} {dn : List Chg} (h : LstAt l a i dn) {x : List UInt8} (hx : l[i]? = some x) (hc : x ≠ [44]) : LstAt l a (i + 1) dn := by
 obtain ⟨hi,rfl⟩ := List.getElem?_eq_some_iff.1 hx
 rcases h with ⟨h1,h2,h3⟩ | ⟨h1,-⟩
 ·refine .inl ⟨hi,by omega,?_⟩
  rw [h3,List.drop_eq_getElem_cons hi,splW,if_neg hc]
  have : (l.take (i + 1)).drop a = (l.take i).drop a ++ [l[i]] := by
   rw [List.take_succ_eq_append_getElem hi,List.drop_append_of_le_length (by rw [List.length_take];omega)]
  rw [this]
 ·omega
theorem LstAt.comma {l : List (List UInt8)} {a i : Nat} {dn : List Chg} (h : LstAt l a i dn) (hx : l[i]? = some [44]) {c : Chg} (hc : chg ((l.take i).drop a) = .ok c) : LstAt l (i + 1) (i + 1) (dn ++ [c]) := by
 obtain ⟨hi,he⟩ := List.getElem?_eq_some_iff.1 hx
 rcases h with ⟨h1,h2,h3⟩ | ⟨h1,-⟩
 ·refine .inl ⟨hi,Nat.le_refl _,?_⟩
  rw [h3,List.drop_eq_getElem_cons hi,he,splW,if_pos rfl,mapE,hc]
  have : (l.take (i + 1)).drop (i + 1) = [] := List.drop_of_length_le (by rw [List.length_take];omega)
  rw [this]
  cases mapE chg (splW [] (l.drop (i + 1))) <;> simp
 ·omega
theorem LstAt.bad {l : List (List UInt8)} {a i : Nat} {dn : List Chg} (h : LstAt l a i dn) (hx : l[i]? = some [44] ∨ i = l.length) {e : Int} (hc : chg ((l.take i).drop a) = .error e) : chgs l = .error e := by
 rcases h with ⟨h1,h2,h3⟩ | ⟨h1,-⟩
 ·rcases hx with hx | rfl
  ·obtain ⟨hi,he⟩ := List.getElem?_eq_some_iff.1 hx
   rw [h3,List.drop_eq_getElem_cons hi,he,splW,if_pos rfl,mapE,hc]
  ·rw [h3,List.drop_of_length_le (Nat.le_refl _),splW,mapE,hc]
 ·rcases hx with hx | hx
  ·have := (List.getElem?_eq_some_iff.1 hx).1;omega
  ·omega
theorem LstAt.last {l : List (List UInt8)} {a i : Nat} {dn : List Chg} (h : LstAt l a i dn) (hx : i = l.length) {c : Chg} (hc : chg ((l.take i).drop a) = .ok c) : LstAt l (i + 1) (i + 1) (dn ++ [c]) := by
 rcases h with ⟨h1,h2,h3⟩ | ⟨h1,-⟩
 ·subst hx
  refine .inr ⟨rfl,?_⟩
  rw [h3,List.drop_of_length_le (Nat.le_refl _),splW,mapE,hc]
  rfl
 ·omega
theorem chgFld_err {c : Chg} {x : UInt8} {w : List UInt8} {e : Int} (h : chgFld c x w = .error e) : e ≠ 0 := by
 unfold chgFld at h
 split at h
 ·split at h
  ·cases h
  ·injection h with h;omega
 split at h
 ·split at h
  ·cases h
  ·injection h with h;omega
 split at h
 ·split at h
  ·cases h
  ·injection h with h;omega
 split at h
 ·cases h
 ·injection h with h;omega
theorem chgFlds_err (f : List UInt8) : ∀ (c : Chg) (ws : List (List UInt8)) (e : Int),chgFlds c f ws = .error e → e ≠ 0 := by
 induction f with
 | nil => intro c ws e h;rw [chgFlds] at h;cases h;simp
 | cons x f ih =>
  intro c ws e h
  cases ws with
  | nil => rw [chgFlds] at h;cases h;simp
  | cons w ws =>
   rw [chgFlds] at h
   cases e1 : chgFld c x w with
   | ok c' => rw [e1] at h;exact ih c' ws e h
   | error y => rw [e1] at h;injection h with h;subst h;exact chgFld_err e1
theorem chg_err {l : List (List UInt8)} {e : Int} (h : chg l = .error e) : e ≠ 0 := by
 cases l with
 | nil => injection h with h;omega
 | cons a r =>
  rw [chg_cons] at h
  split at h
  ·injection h with h;omega
  split at h
  ·injection h with h;omega
  exact chgFlds_err _ _ _ _ h
theorem change_as {l : List (List UInt8)} {n : Nat} (hn : Hid (l.length = n)) (A : Option Addr) (c : Nat) (w : World) (hE : Env w) (hT : Tabs w) (hl : n ≤ 2000000) (hc : n ≤ c) (hs : Shows strc w w.heap.size A l) (hw : ∀ x ∈ l,x.length ≤ 2000000) :
  Calls Tryz.prog 60 #[.slice A n c] w fun e w' => ChgR (chg l) w e w' ∧ Below w.heap.size w w' := by
 have hn := hn.out
 subst hn
 exact change_any l A c w hE hT hl hc hs hw
set_option maxRecDepth 20000 in
set_option maxHeartbeats 1600000 in
theorem list_in (l : List (List UInt8)) (A : Option Addr) (c : Nat) (w : World) (hE : Env w) (hT : Tabs w) (hl : l.length ≤ 2000000) (hc : l.length ≤ c) (hs : Shows strc w w.heap.size A l) (hw : ∀ x ∈ l,x.length ≤ 2000000) (hne : l ≠ []) :
  Calls Tryz.prog 31 #[.slice A l.length c] w fun e w' => ListR (chgs l) w e w' ∧ Below w.heap.size w w' := by
 obtain ⟨i0,hi0,hz0,hz1,hz2'⟩ := info_parts infoChg
 obtain ⟨N,hN⟩ : ∃ N,l.length = N := ⟨_,rfl⟩
 have hN0 : 0 < N := by rw [← hN];exact List.length_pos_iff.2 hne
 rw [hN] at hl hc ⊢
 have HN := Lib.hid hN
 obtain ⟨bb,o,rfl,hbb,hcell⟩ := hs (by omega)
 have HS := LstAt.start hne
 clear hN hne
 go_enter Tryz.func31,Tryz.ntmps31
 go_wp2
 go_loopw [4,5,6] (fun v f i wr => ∃ (p q k : Nat) (dn : List Chg) (kvs : List Value),q ≤ N + 1 ∧ p ≤ q ∧ f = .int .i64 (p : Int) ∧ i = .int .i64 (q : Int) ∧ Hid (LstAt l p q dn) ∧ Hid (dn.length = k) ∧ k ≤ q ∧ (∃ A c,v = .slice A k c) ∧ CRow w.heap.size v dn kvs wr ∧ Below w.heap.size w wr) (fun _ _ i _ => N + 1 - (intOf i).toNat)
 case atStart => exact ⟨0,0,0,[],[],Nat.zero_le _,Nat.le_refl _,rfl,rfl,HS,Lib.hid rfl,Nat.le_refl _,⟨_,_,rfl⟩,CRow.nil _ _,Below.refl _ _⟩
 case round =>
  obtain ⟨p,q,k,dn,kvs,hq,hpq,rfl,rfl,HG,HK,hkq,⟨Av,cv,rfl⟩,hrow,hbl⟩ := hrel
  clear HS
  have j0 : (0 : Int) < (N : Int) := by omega
  by_cases hend : q = N + 1
  ·have i1 : ¬ (q : Int) ≤ (N : Int) := by omega
   have HD : Hid (chgs l = .ok dn) := Lib.hid (by
    rcases HG.out with ⟨h1,-⟩ | ⟨-,h2⟩
    ·have := HN.out;omega
    ·exact h2)
   have hk := HK.out
   subst hk
   clear hend
   go_wp2
   go_ret2
   exact ⟨by rw [HD.out];exact ⟨_,_,_,rfl,hrow⟩,hbl⟩
  ·have hqN : q ≤ N := by omega
   have i1 : (q : Int) ≤ (N : Int) := by omega
   -- BODY
   by_cases hlt : q < N
   ·obtain ⟨x,hx⟩ : ∃ x,l[q]? = some x := ⟨_,List.getElem?_eq_getElem (by rw [HN.out];exact hlt)⟩
    have cc := (hbl.cell (p := ⟨bb,o + q,none⟩) hbb).trans (hcell q x hx)
    unfold strc at cc
    have i2 : (q : Int) < (N : Int) := by omega
    by_cases hcm : x = [44]
    ·have HQ : Hid (l[q]? = some [44]) := Lib.hid (by rw [hx,hcm])
     have ex : (x == [44]) = true := by rw [beq_iff_eq];exact hcm
     clear hx hcm hend
     obtain ⟨A2,c2,hcut,hc2,hs2⟩ := cut_mid hs HN.out hc p q hpq hqN
     have hcut' := fun W => hcut W (p : Int) (q : Int) rfl rfl
     have hlen : ((l.take q).drop p).length = q - p := by rw [List.length_drop,List.length_take];have := HN.out;omega
     have HLEN := Lib.hid hlen
     have hw2 : ∀ x ∈ (l.take q).drop p,x.length ≤ 2000000 := fun x hx => hw x (List.mem_of_mem_take (List.mem_of_mem_drop hx))
     have hs3 : Shows strc wr wr.heap.size A2 ((l.take q).drop p) := (hs2.below hbl).more hbl.size
     have hE1 := hE.on hbl
     have hT1 := hT.on hbl
     obtain ⟨sub,hsub⟩ : ∃ s,(l.take q).drop p = s := ⟨_,rfl⟩
     rw [hsub] at hs3 hw2 HLEN
     have HSUB := Lib.hid hsub
     clear hcut hlen hsub hs2
     go_wp2_with fail
     refine (change_as HLEN A2 c2 wr hE1 hT1 (by omega) hc2 hs3 hw2).mono ?_
     rintro e w3 ⟨hres,hb3⟩
     have hrow3 := hrow.on hb3
     have hbl3 := hbl.trans (hb3.mono hbl.size)
     have hs33 : wr.heap.size ≤ w3.heap.size := hb3.size
     have hold : ∀ (i : Nat) u g,kvs[i]? = some u → u.ownBlock = some g → g < wr.heap.size := fun i u g hu hg => by
      obtain ⟨d,hd⟩ : ∃ d,dn[i]? = some d := ⟨_,List.getElem?_eq_getElem (by rw [← hrow.len];exact (List.getElem?_eq_some_iff.1 hu).1)⟩
      exact ((hrow.own i d u hd hu).lt g hg).2
     clear hb3 hE1 hT1 hs3 cc
     cases ho1 : chg sub with
     | error x =>
      rw [ho1] at hres
      obtain ⟨ch,Ae,ne,ke,rfl⟩ := hres
      have hx0 : (x != 0) = true := by rw [bne_iff_ne];exact chg_err ho1
      have HE : Hid (chgs l = .error x) := Lib.hid (HG.out.bad (.inl HQ.out) (by rw [HSUB.out];exact ho1))
      have hz := hbl3.alloc hbl3.size (.cells (chC ch (.slice Ae ne ke)) 92)
      simp only [chC] at hz ⊢
      clear ho1 hcut'
      go_wp2
      go_ret2
      exact ⟨by rw [HE.out];exact rfl,hz⟩
     | ok ch =>
      rw [ho1] at hres
      obtain ⟨Ae,ke,rfl,hoe⟩ := hres
      have HX : Hid (LstAt l (q + 1) (q + 1) (dn ++ [ch])) := Lib.hid (HG.out.comma HQ.out (by rw [HSUB.out];exact ho1))
      have hoe3 := own_low hoe hbl.size
      have hapn : ∀ (i : Nat) u g,kvs[i]? = some u → u.ownBlock = some g → (Value.slice Ae ch.key.length ke).ownBlock ≠ some g := fun i u g hu hg e => by
       have h1 := hold i u g hu hg
       have h2 := (hoe.lt g e).1
       omega
      have hrow4 := hrow3.on (one w3 (.cells (chC ch (.slice Ae ch.key.length ke)) 92))
      have hoe4 := own_on hoe3 (one w3 (.cells (chC ch (.slice Ae ch.key.length ke)) 92))
      have hbl4 := hbl3.alloc hbl3.size (.cells (chC ch (.slice Ae ch.key.length ke)) 92)
      have hB4 := blk_new w3 (chC ch (.slice Ae ch.key.length ke)) 92
      obtain ⟨e0,e1,e2,e3,e4,e5,e6,e7,fr⟩ := chC_cells hB4
      have hrw := hrow4.row
      rw [HK.out] at hrw
      clear ho1 hcut' hoe hoe3 hrow3 hbl3 hB4 hold
      simp only [chC] at hrow4 hoe4 hbl4 e0 e1 e2 e3 e4 e5 e6 e7 fr hrw ⊢
      have hsz4 : w.heap.size ≤ w3.heap.size + 1 := by have := hbl4.size;simpa using this
      go_wp2_with (at_builtin;go_loud (refine wpList_append_own _ rfl _ _ 22 rfl w.heap.size 92 i0 (.agg (chC chg0 (.slice none 0 0))) 8 80 Tryz.underlying22 hi0 hz0 hz1 hz2' rfl (by decide) _ _ _ rfl (hrw.alloc _) ⟨w3.heap.size + 1,0,none⟩ 1 1 [_,_,_,_,_,_,_,_] rfl rfl (cells_at (by simp) _ _) ?c2 ?c3 ?c4 ?c5 ?_))
      case c2 => intro u hu;simp at hu;rcases hu with rfl | rfl | rfl | rfl | rfl | rfl | rfl | rfl <;> rfl
      case c3 => unfold maxLen;omega
      case c4 => omega
      case c5 => simp;omega
      intro v' w5 hown' hgrow _
      have hrow5 := hrow4.add hoe4 hapn _ (by rw [HK.out];exact hown') hgrow
      have hbk5 := (hbl4.alloc hbl4.size _).grown hgrow (by have := hbl4.size;simp at this ⊢;omega) (fun j hj => (hrw.lt j hj).1)
      obtain ⟨A',c',rfl,-⟩ := own_sl hown'
      clear hrow4 hoe4 hbl4 hgrow hown' hrw e0 e1 e2 e3 e4 e5 e6 e7 fr hrow
      go_wp2
      go_roundw
      case rel => exact ⟨q + 1,q + 1,k + 1,_,_,by omega,Nat.le_refl _,by go_num,by go_num,HX,Lib.hid (by rw [List.length_append,HK.out];rfl),by omega,⟨_,_,rfl⟩,hrow5,hbk5⟩
      case measure => simp [intOf];omega
    ·have HX := Lib.hid (HG.out.word hx hcm)
     have ex : (x == [44]) = false := by rw [beq_eq_false_iff_ne];exact hcm
     clear hx hcm hend
     go_wp2
     go_roundw
     case rel => exact ⟨p,q + 1,k,dn,kvs,by omega,by omega,rfl,by go_num,HX,HK,by omega,⟨_,_,rfl⟩,hrow,hbl⟩
     case measure => simp [intOf];omega
   ·have i2 : ¬ (q : Int) < (N : Int) := by omega
    have HQ : Hid (q = l.length) := Lib.hid (by rw [HN.out];omega)
    have cc : True := trivial
    clear hend
    obtain ⟨A2,c2,hcut,hc2,hs2⟩ := cut_mid hs HN.out hc p q hpq hqN
    have hcut' := fun W => hcut W (p : Int) (q : Int) rfl rfl
    have hlen : ((l.take q).drop p).length = q - p := by rw [List.length_drop,List.length_take];have := HN.out;omega
    have HLEN := Lib.hid hlen
    have hw2 : ∀ x ∈ (l.take q).drop p,x.length ≤ 2000000 := fun x hx => hw x (List.mem_of_mem_take (List.mem_of_mem_drop hx))
    have hs3 : Shows strc wr wr.heap.size A2 ((l.take q).drop p) := (hs2.below hbl).more hbl.size
    have hE1 := hE.on hbl
    have hT1 := hT.on hbl
    obtain ⟨sub,hsub⟩ : ∃ s,(l.take q).drop p = s := ⟨_,rfl⟩
    rw [hsub] at hs3 hw2 HLEN
    have HSUB := Lib.hid hsub
    clear hcut hlen hsub hs2
    go_wp2_with fail
    refine (change_as HLEN A2 c2 wr hE1 hT1 (by omega) hc2 hs3 hw2).mono ?_
    rintro e w3 ⟨hres,hb3⟩
    have hrow3 := hrow.on hb3
    have hbl3 := hbl.trans (hb3.mono hbl.size)
    have hs33 : wr.heap.size ≤ w3.heap.size := hb3.size
    have hold : ∀ (i : Nat) u g,kvs[i]? = some u → u.ownBlock = some g → g < wr.heap.size := fun i u g hu hg => by
     obtain ⟨d,hd⟩ : ∃ d,dn[i]? = some d := ⟨_,List.getElem?_eq_getElem (by rw [← hrow.len];exact (List.getElem?_eq_some_iff.1 hu).1)⟩
     exact ((hrow.own i d u hd hu).lt g hg).2
    clear hb3 hE1 hT1 hs3 cc
    cases ho1 : chg sub with
    | error x =>
     rw [ho1] at hres
     obtain ⟨ch,Ae,ne,ke,rfl⟩ := hres
     have hx0 : (x != 0) = true := by rw [bne_iff_ne];exact chg_err ho1
     have HE : Hid (chgs l = .error x) := Lib.hid (HG.out.bad (.inr HQ.out) (by rw [HSUB.out];exact ho1))
     have hz := hbl3.alloc hbl3.size (.cells (chC ch (.slice Ae ne ke)) 92)
     simp only [chC] at hz ⊢
     clear ho1 hcut'
     go_wp2
     go_ret2
     exact ⟨by rw [HE.out];exact rfl,hz⟩
    | ok ch =>
     rw [ho1] at hres
     obtain ⟨Ae,ke,rfl,hoe⟩ := hres
     have HX : Hid (LstAt l (q + 1) (q + 1) (dn ++ [ch])) := Lib.hid (HG.out.last HQ.out (by rw [HSUB.out];exact ho1))
     have hoe3 := own_low hoe hbl.size
     have hapn : ∀ (i : Nat) u g,kvs[i]? = some u → u.ownBlock = some g → (Value.slice Ae ch.key.length ke).ownBlock ≠ some g := fun i u g hu hg e => by
      have h1 := hold i u g hu hg
      have h2 := (hoe.lt g e).1
      omega
     have hrow4 := hrow3.on (one w3 (.cells (chC ch (.slice Ae ch.key.length ke)) 92))
     have hoe4 := own_on hoe3 (one w3 (.cells (chC ch (.slice Ae ch.key.length ke)) 92))
     have hbl4 := hbl3.alloc hbl3.size (.cells (chC ch (.slice Ae ch.key.length ke)) 92)
     have hB4 := blk_new w3 (chC ch (.slice Ae ch.key.length ke)) 92
     obtain ⟨e0,e1,e2,e3,e4,e5,e6,e7,fr⟩ := chC_cells hB4
     have hrw := hrow4.row
     rw [HK.out] at hrw
     clear ho1 hcut' hoe hoe3 hrow3 hbl3 hB4 hold
     simp only [chC] at hrow4 hoe4 hbl4 e0 e1 e2 e3 e4 e5 e6 e7 fr hrw ⊢
     have hsz4 : w.heap.size ≤ w3.heap.size + 1 := by have := hbl4.size;simpa using this
     go_wp2_with (at_builtin;go_loud (refine wpList_append_own _ rfl _ _ 22 rfl w.heap.size 92 i0 (.agg (chC chg0 (.slice none 0 0))) 8 80 Tryz.underlying22 hi0 hz0 hz1 hz2' rfl (by decide) _ _ _ rfl (hrw.alloc _) ⟨w3.heap.size + 1,0,none⟩ 1 1 [_,_,_,_,_,_,_,_] rfl rfl (cells_at (by simp) _ _) ?c2 ?c3 ?c4 ?c5 ?_))
     case c2 => intro u hu;simp at hu;rcases hu with rfl | rfl | rfl | rfl | rfl | rfl | rfl | rfl <;> rfl
     case c3 => unfold maxLen;omega
     case c4 => omega
     case c5 => simp;omega
     intro v' w5 hown' hgrow _
     have hrow5 := hrow4.add hoe4 hapn _ (by rw [HK.out];exact hown') hgrow
     have hbk5 := (hbl4.alloc hbl4.size _).grown hgrow (by have := hbl4.size;simp at this ⊢;omega) (fun j hj => (hrw.lt j hj).1)
     obtain ⟨A',c',rfl,-⟩ := own_sl hown'
     clear hrow4 hoe4 hbl4 hgrow hown' hrw e0 e1 e2 e3 e4 e5 e6 e7 fr hrow
     go_wp2
     go_roundw
     case rel => exact ⟨q + 1,q + 1,k + 1,_,_,by omega,Nat.le_refl _,by go_num,by go_num,HX,Lib.hid (by rw [List.length_append,HK.out];rfl),by omega,⟨_,_,rfl⟩,hrow5,hbk5⟩
     case measure => simp [intOf];omega
theorem list_any (l : List (List UInt8)) (A : Option Addr) (c : Nat) (w : World) (hE : Env w) (hT : Tabs w) (hl : l.length ≤ 2000000) (hc : l.length ≤ c) (hs : Shows strc w w.heap.size A l) (hw : ∀ x ∈ l,x.length ≤ 2000000) :
  Calls Tryz.prog 31 #[.slice A l.length c] w fun e w' => ListR (chgs l) w e w' ∧ Below w.heap.size w w' := by
 by_cases hne : l = []
 ·subst hne
  go_enter Tryz.func31,Tryz.ntmps31
  go_wp2
  go_loopw [4,6] (fun v i wr => wr = w ∧ v = .slice none 0 0 ∧ i = .int .i64 0) (fun _ _ _ => 0)
  case atStart => exact ⟨rfl,rfl,rfl⟩
  case round =>
   obtain ⟨rfl,rfl,rfl⟩ := hrel
   go_wp2
   go_ret2
   exact ⟨⟨none,0,[],rfl,CRow.nil _ _⟩,Below.refl _ _⟩
 ·exact list_in l A c w hE hT hl hc hs hw hne
end Go.Proofs.YtpkmekdpmkfcdaaGreatDoor.Sr
