/- Contract: the first line of a script. The lines of a script, one after the other: plain; and the steps in memory. The steps of a script in memory. Contract: a whole script read. Contracts: a script of any length read; changes read. -/
import Derived.Test.YtpkmekdpmkfcdaaGreatDoorSmD
import Derived.Test.YtpkmekdpmkfcdaaGreatDoorScM
namespace Go.Proofs.YtpkmekdpmkfcdaaGreatDoor.Sr
set_option linter.unusedVariables false
set_option linter.unusedSimpArgs false
open Go.RowKit Go.Proofs.YtpkmekdpmkfcdaaGreatDoor.Wd Go.Proofs.YtpkmekdpmkfcdaaGreatDoor.Px Go.Proofs.YtpkmekdpmkfcdaaGreatDoor.By Go.Proofs.YtpkmekdpmkfcdaaGreatDoor.En Go.Proofs.YtpkmekdpmkfcdaaGreatDoor.Pl Go.Proofs.YtpkmekdpmkfcdaaGreatDoor.Pf Go.Proofs.YtpkmekdpmkfcdaaGreatDoor.Sc
def ofF : Except Int Int → Value
 | .ok n => .tuple #[.int .i64 n,.int .i64 0]
 | .error x => .tuple #[.int .i64 0,.int .i64 x]
theorem first_any (a : List UInt8) (ws : List (List UInt8)) (A : Option Addr) (c : Nat) (w : World) (hE : Env w) (hl : (a :: ws).length ≤ 2000000) (hs : Shows strc w w.heap.size A (a :: ws)) (hw : ∀ x ∈ a :: ws,x.length ≤ 2000000) :
  Calls Tryz.prog 41 #[.slice A (a :: ws).length c] w fun e w' => e = .returned (ofF (firstS (a :: ws))) ∧ Below w.heap.size w w' := by
 obtain ⟨bb,o,rfl,hbb,hcell⟩ := hs (by simp)
 have c0 := hcell 0 a rfl
 rw [Nat.add_zero] at c0
 have hc1 := hcell 1
 clear hcell hs
 unfold strc at c0 hc1
 by_cases ha : a = culv
 ·subst ha
  unfold culv at c0
  match ws,hl,hw,hc1 with
  | [],_,_,_ =>
   have hv : ofF (firstS [culv]) = .tuple #[.int .i64 0,.int .i64 226] := by
    unfold firstS
    rw [if_neg (by simp),if_pos (by simp)]
    rfl
   rw [hv]
   clear hv
   simp only [List.length_cons,List.length_nil]
   go_enter Tryz.func41,Tryz.ntmps41
   go_wp2
   go_ret2
   exact ⟨rfl,Below.refl _ _⟩
  | [b],_,hw,hc1 =>
   have c1 := hc1 b rfl
   have hlb := hw b (by simp)
   obtain ⟨o1,ho1⟩ : ∃ o,numW b = o := ⟨_,rfl⟩
   have HB := Lib.hid ho1
   have hv : ofF (firstS [culv,b]) = ofN o1 := by
    unfold firstS
    rw [if_neg (by simp),if_neg (by simp),show List.headD [culv,b].tail [] = b from rfl,ho1]
    cases o1 <;> rfl
   obtain ⟨y,e,hy⟩ : ∃ y e,ofN o1 = .tuple #[.int .i64 y,.int .i64 e] := by cases o1 <;> exact ⟨_,_,rfl⟩
   rw [hv]
   have HB2 : ∀ W : World,Env W → Calls Tryz.prog 77 #[.string ⟨b.toArray⟩] W fun e' w' => e' = .returned (.tuple #[.int .i64 y,.int .i64 e]) ∧ Below W.heap.size W w' := fun W hEW => by
    have := number_as HB (by omega) W hEW
    rwa [hy] at this
   rw [hy]
   clear hc1 hw ho1 hv hy HB
   simp only [List.length_cons,List.length_nil]
   go_enter Tryz.func41,Tryz.ntmps41
   go_wp2_with (go_at_call 77;refine (HB2 w hE).mono ?_;rintro e w1 ⟨rfl,hb1⟩)
   go_ret2
   exact ⟨rfl,hb1⟩
  | b :: d :: r,hl,_,_ =>
   obtain ⟨N,hN⟩ : ∃ N,(culv :: b :: d :: r).length = N := ⟨_,rfl⟩
   have h3 : 3 ≤ N := by simp at hN;omega
   rw [hN] at hl ⊢
   have hv : ofF (firstS (culv :: b :: d :: r)) = .tuple #[.int .i64 0,.int .i64 226] := by
    unfold firstS
    rw [if_neg (by simp),if_pos (by simp)]
    rfl
   rw [hv]
   clear hv hN hc1
   go_enter Tryz.func41,Tryz.ntmps41
   go_wp2
   go_ret2
   exact ⟨rfl,Below.refl _ _⟩
 ·obtain ⟨N,hN⟩ : ∃ N,(a :: ws).length = N := ⟨_,rfl⟩
  have h1 : 1 ≤ N := by simp at hN;omega
  have hx : (a == [99,117,108,118,101,114,116]) = false := by simpa [culv] using ha
  have hv : ofF (firstS (a :: ws)) = .tuple #[.int .i64 0,.int .i64 227] := by
   unfold firstS
   rw [if_pos (by simpa using ha)]
   rfl
  rw [hN] at hl ⊢
  rw [hv]
  clear hv hN hc1
  go_enter Tryz.func41,Tryz.ntmps41
  go_wp2
  go_ret2
  exact ⟨rfl,Below.refl _ _⟩
end Go.Proofs.YtpkmekdpmkfcdaaGreatDoor.Sr
namespace Go.Proofs.YtpkmekdpmkfcdaaGreatDoor.Sr
set_option linter.unusedVariables false
set_option linter.unusedSimpArgs false
open Go.RowKit Go.Proofs.YtpkmekdpmkfcdaaGreatDoor.Wd Go.Proofs.YtpkmekdpmkfcdaaGreatDoor.Px Go.Proofs.YtpkmekdpmkfcdaaGreatDoor.By Go.Proofs.YtpkmekdpmkfcdaaGreatDoor.En Go.Proofs.YtpkmekdpmkfcdaaGreatDoor.Pl Go.Proofs.YtpkmekdpmkfcdaaGreatDoor.Pf Go.Proofs.YtpkmekdpmkfcdaaGreatDoor.Sc
/-! ### words are no longer than their line -/
theorem wds_le (n : Nat) : ∀ (l cur : List UInt8) (ws : List (List UInt8)),cur.length + l.length ≤ n → wds cur l = some ws → ∀ x ∈ ws,x.length ≤ n
 | [],cur,ws,hn,h => by
  rw [wds] at h
  injection h with h
  subst h
  intro x hx
  unfold flw at hx
  split at hx
  ·simp at hx
  ·simp at hx;subst hx;simpa using hn
 | c :: r,cur,ws,hn,h => by
  have flwle : ∀ x ∈ flw cur,x.length ≤ n := fun x hx => by
   unfold flw at hx
   split at hx
   ·simp at hx
   ·simp at hx;subst hx;simp at hn;omega
  rw [wds] at h
  split at h
  ·injection h with h
   subst h
   exact flwle
  ·split at h
   ·cases e : wds [] r with
    | none => rw [e] at h;simp at h
    | some us =>
     rw [e] at h
     simp only [Option.map_some,Option.some.injEq] at h
     subst h
     intro x hx
     rcases List.mem_append.1 hx with hx | hx
     ·exact flwle x hx
     ·exact wds_le n r [] us (by simp at hn ⊢;omega) e x hx
   ·split at h
    ·exact wds_le n r (cur ++ [c]) ws (by simp at hn ⊢;omega) h
    ·cases h
theorem wds_len : ∀ (l cur : List UInt8) (ws : List (List UInt8)),wds cur l = some ws → ws.length ≤ l.length + 1
 | [],cur,ws,h => by
  rw [wds] at h
  injection h with h
  subst h
  unfold flw;split <;> simp
 | c :: r,cur,ws,h => by
  have hf : (flw cur).length ≤ 1 := by unfold flw;split <;> simp
  rw [wds] at h
  split at h
  ·injection h with h
   subst h
   omega
  ·split at h
   ·cases e : wds [] r with
    | none => rw [e] at h;simp at h
    | some us =>
     rw [e] at h
     simp only [Option.map_some,Option.some.injEq] at h
     subst h
     have := wds_len r [] us e
     rw [List.length_append,List.length_cons];omega
   ·split at h
    ·have := wds_len r (cur ++ [c]) ws h
     rw [List.length_cons];omega
    ·cases h
/-! ### where a walk over the lines stands -/
def restOf (t : List UInt8) : Option Nat → List UInt8
 | none => []
 | some p => t.drop (p + 1)
theorem rest_len {r : List UInt8} {o : Option Nat} (h : CutAt 10 r o) (hr : r ≠ []) : (restOf r o).length < r.length ∧ (headOf r o).length ≤ r.length := by
 have := List.length_pos_iff.2 hr
 cases o with
 | none => exact ⟨this,Nat.le_refl _⟩
 | some p =>
  obtain ⟨h1,-⟩ := h
  unfold restOf headOf
  simp only [List.length_drop,List.length_take]
  omega
theorem cutV_of (r : List UInt8) (o : Option Nat) : ∃ b,cutV r o = .tuple #[.string ⟨(headOf r o).toArray⟩,.string ⟨(restOf r o).toArray⟩,.bool b] := by
 cases o with
 | none => exact ⟨_,rfl⟩
 | some p => exact ⟨_,rfl⟩
def PAt (t r : List UInt8) (st : Option Int × List Opp) (no : Nat) : Prop := goL (none,[]) 1 (split 10 t) = goL st (no + 1) (split 10 r)
theorem PAt.start (t : List UInt8) : PAt t t (none,[]) 0 := rfl
theorem lineS_nil (st : Option Int × List Opp) : lineS st [] = .ok st := rfl
theorem PAt.done {t : List UInt8} {st : Option Int × List Opp} {no : Nat} (h : PAt t [] st no) : goL (none,[]) 1 (split 10 t) = .ok st := by
 unfold PAt at h
 rw [h]
 simp only [split,goL,lineS_nil]
theorem goL_cut {r : List UInt8} {o : Option Nat} (hc : CutAt 10 r o) (st : Option Int × List Opp) (no : Nat) :
  goL st no (split 10 r) = match lineS st (headOf r o) with
   | .error e => .error (no,e)
   | .ok st' => goL st' (no + 1) (split 10 (restOf r o)) := by
 cases o with
 | none =>
  rw [split_one 10 r hc,goL]
  show _ = match lineS st r with
   | .error e => Except.error (no,e)
   | .ok st' => goL st' (no + 1) (split 10 [])
  cases lineS st r with
  | error e => rfl
  | ok st' => simp only [split,goL,lineS_nil]
 | some p =>
  obtain ⟨h1,h2,h3⟩ := hc
  rw [h2,split_cut 10 _ _ h3,goL,← h2]
  rfl
theorem PAt.next {t r : List UInt8} {st st' : Option Int × List Opp} {no : Nat} (h : PAt t r st no) {o : Option Nat} (hc : CutAt 10 r o) (hl : lineS st (headOf r o) = .ok st') : PAt t (restOf r o) st' (no + 1) := by
 unfold PAt at h ⊢
 rw [h,goL_cut hc,hl]
theorem PAt.bad {t r : List UInt8} {st : Option Int × List Opp} {no : Nat} (h : PAt t r st no) {o : Option Nat} (hc : CutAt 10 r o) {e : Int} (hl : lineS st (headOf r o) = .error e) : goL (none,[]) 1 (split 10 t) = .error (no + 1,e) := by
 unfold PAt at h
 rw [h,goL_cut hc,hl]
/-! ### a line's words, shown -/
theorem own_shows {W : World} {b B n c : Nat} {A : Option Addr} {l : List (List UInt8)} (h : W.ownsRow b 9 1 (.slice A n c) n (l.map strc)) (hB : W.heap.size ≤ B) : Shows strc W B A l ∧ n ≤ c ∧ n = l.length := by
 have hn : n = l.length := by have := h.1;simp at this;omega
 rcases h.2 with ⟨h1,h2⟩ | ⟨g,cap,cur,h1,h2,h3,h4,h5,h6,h7⟩
 ·injection h1 with _ h1 h1'
  exact ⟨fun hl => by omega,by omega,hn⟩
 ·injection h1 with hA _ hc
  subst hA hc
  refine ⟨fun _ => ⟨g,0,rfl,by have := (Array.getElem?_eq_some_iff.1 h3).1;omega,fun j x hx => ?_⟩,h4,hn⟩
  have hj := (List.getElem?_eq_some_iff.1 hx).1
  have h8 : (cur.toList.take (n * 1))[j]? = some (strc x) := by rw [h7,List.getElem?_map,hx];rfl
  rw [List.getElem?_take_of_lt (by omega),Array.getElem?_toList] at h8
  simp [World.cell?,h3,h8]
end Go.Proofs.YtpkmekdpmkfcdaaGreatDoor.Sr
namespace Go.Proofs.YtpkmekdpmkfcdaaGreatDoor.Sr
set_option linter.unusedVariables false
set_option linter.unusedSimpArgs false
open Go.RowKit Go.Proofs.YtpkmekdpmkfcdaaGreatDoor.Wd Go.Proofs.YtpkmekdpmkfcdaaGreatDoor.Px Go.Proofs.YtpkmekdpmkfcdaaGreatDoor.By Go.Proofs.YtpkmekdpmkfcdaaGreatDoor.En Go.Proofs.YtpkmekdpmkfcdaaGreatDoor.Pl Go.Proofs.YtpkmekdpmkfcdaaGreatDoor.Pf Go.Proofs.YtpkmekdpmkfcdaaGreatDoor.Sc
/-- what a step's cells name, where its rows begin and end -/
structure Opv where
 dv : Value
 cv : Value
 fv : Value
 bv : Value
 kvs : List Value
 base : Nat
 top : Nat
def Opv.blk (x : Opv) (g : Nat) : Prop := x.dv.ownBlock = some g ∨ x.cv.ownBlock = some g ∨ x.fv.ownBlock = some g ∨ x.bv.ownBlock = some g ∨ ∃ u ∈ x.kvs,u.ownBlock = some g
def cellsO (l : List Opp) (vs : List Opv) : List Value := (List.zipWith (fun o x => (opC o x.dv x.cv x.fv x.bv).toList) l vs).flatten
theorem cellsO_snoc {l : List Opp} {vs : List Opv} (h : vs.length = l.length) (o : Opp) (x : Opv) : cellsO (l ++ [o]) (vs ++ [x]) = cellsO l vs ++ (opC o x.dv x.cv x.fv x.bv).toList := by
 unfold cellsO
 rw [List.zipWith_append h.symm]
 simp
/-- the types of the rows behind a step -/
def Und (e : TypeId) : Prop := e = 92 ∨ e = 5 ∨ e = 125 ∨ e = 4
theorem CRow.mv {B : Nat} {v : Value} {l : List Chg} {kvs : List Value} {W W' : World} (h : CRow B v l kvs W) (hm : ∀ (g : Nat) (c : Array Value) (e : TypeId),Und e → W.heap[g]? = some (.cells c e (0,0)) → W'.heap[g]? = W.heap[g]?) : CRow B v l kvs W' :=
 ⟨h.len,own_same h.row fun g hg => by obtain ⟨c,hc⟩ := own_kind h.row hg;exact hm g c 92 (.inl rfl) hc,
  fun i c kv hc hk => own_same (h.own i c kv hc hk) fun g hg => by obtain ⟨c2,hc2⟩ := own_kind (h.own i c kv hc hk) hg;exact hm g c2 5 (.inr (.inl rfl)) hc2,h.ap⟩
theorem OpO.mv {B : Nat} {o : Opp} {dv cv fv bv : Value} {kvs : List Value} {W W' : World} (h : OpO B o dv cv fv bv kvs W) (hm : ∀ (g : Nat) (c : Array Value) (e : TypeId),Und e → W.heap[g]? = some (.cells c e (0,0)) → W'.heap[g]? = W.heap[g]?) : OpO B o dv cv fv bv kvs W' :=
 ⟨own_same h.data fun g hg => by obtain ⟨c,hc⟩ := own_kind h.data hg;exact hm g c 5 (.inr (.inl rfl)) hc,h.chs.mv hm,
  own_same h.fls fun g hg => by obtain ⟨c,hc⟩ := own_kind h.fls hg;exact hm g c 125 (.inr (.inr (.inl rfl))) hc,
  own_same h.keep fun g hg => by obtain ⟨c,hc⟩ := own_kind h.keep hg;exact hm g c 4 (.inr (.inr (.inr rfl))) hc,h.ap⟩
theorem OpO.lt {B : Nat} {o : Opp} {x : Opv} {W : World} (h : OpO B o x.dv x.cv x.fv x.bv x.kvs W) {g : Nat} (hg : x.blk g) : g < W.heap.size := by
 rcases hg with hg | hg | hg | hg | ⟨u,hu,hg⟩
 ·exact (h.data.lt g hg).2
 ·exact (h.chs.row.lt g hg).2
 ·exact (h.fls.lt g hg).2
 ·exact (h.keep.lt g hg).2
 ·obtain ⟨i,hi⟩ := List.mem_iff_getElem?.1 hu
  obtain ⟨d,hd⟩ : ∃ d,o.chs[i]? = some d := ⟨_,List.getElem?_eq_getElem (by rw [← h.chs.len];exact (List.getElem?_eq_some_iff.1 hi).1)⟩
  exact ((h.chs.own i d u hd hi).lt g hg).2
/-- a list of steps in memory -/
structure ORow (B : Nat) (v : Value) (l : List Opp) (vs : List Opv) (W : World) : Prop where
 len : vs.length = l.length
 row : W.ownsRow B 108 14 v l.length (cellsO l vs)
 own : ∀ (i : Nat) o x,l[i]? = some o → vs[i]? = some x → OpO x.base o x.dv x.cv x.fv x.bv x.kvs W ∧ B ≤ x.base ∧ x.top ≤ W.heap.size
 low : ∀ x ∈ vs,∀ g,x.blk g → g < x.top
 sep : ∀ (i j : Nat) x y,i < j → vs[i]? = some x → vs[j]? = some y → x.top ≤ y.base
theorem ORow.nil (B : Nat) (W : World) : ORow B (.slice none 0 0) [] [] W := ⟨rfl,World.ownsRow_nil _ _ _ _,fun i o x h => by simp at h,fun x h => by simp at h,fun i j x y _ h => by simp at h⟩
theorem ORow.mv {B : Nat} {v : Value} {l : List Opp} {vs : List Opv} {W W' : World} (h : ORow B v l vs W) (hs : W.heap.size ≤ W'.heap.size) (hm : ∀ (g : Nat) (c : Array Value) (e : TypeId),Und e ∨ e = 108 → W.heap[g]? = some (.cells c e (0,0)) → W'.heap[g]? = W.heap[g]?) : ORow B v l vs W' :=
 ⟨h.len,own_same h.row fun g hg => by obtain ⟨c,hc⟩ := own_kind h.row hg;exact hm g c 108 (.inr rfl) hc,
  fun i o x ho hx => by
   obtain ⟨h1,h2,h3⟩ := h.own i o x ho hx
   exact ⟨h1.mv fun g c e he hc => hm g c e (.inl he) hc,h2,Nat.le_trans h3 hs⟩,h.low,h.sep⟩
theorem ORow.on {B : Nat} {v : Value} {l : List Opp} {vs : List Opv} {W W' : World} (h : ORow B v l vs W) (hb : Below W.heap.size W W') : ORow B v l vs W' :=
 h.mv hb.size fun g c e _ hc => hb.block g (blk_lt hc)
theorem ORow.set {B S j : Nat} {v : Value} {l : List Opp} {vs : List Opv} {W : World} (h : ORow B v l vs W) {a : Array Value} (hS : Blk S a 60 W) (u : Value) : ORow B v l vs (W.setCell ⟨S,j,none⟩ u) :=
 h.mv (by simp [World.setCell]) fun g c e he hc => Below.heap_setCell W ⟨S,j,none⟩ u g (fun e2 => by
  subst e2
  unfold Blk at hS
  rw [hS] at hc
  injection hc with hc
  injection hc with _ hc
  subst hc
  rcases he with (he | he | he | he) | he <;> exact absurd he (by decide))
/-- a step is appended -/
theorem ORow.add {B b : Nat} {v v' : Value} {l : List Opp} {vs : List Opv} {W W' : World} (h : ORow B v l vs W) {o : Opp} {dv cv fv bv : Value} {kvs : List Value} (hO : OpO b o dv cv fv bv kvs W) (hB : B ≤ b) (hold : ∀ x ∈ vs,x.top ≤ b) (ob : Obj)
  (hr : W'.ownsRow B 108 14 v' (l.length + 1) (cellsO l vs ++ (opC o dv cv fv bv).toList)) (hg : (W.alloc ob).grownBy W' v.ownBlock) : ORow B v' (l ++ [o]) (vs ++ [⟨dv,cv,fv,bv,kvs,b,W.heap.size⟩]) W' := by
 have hs : W.heap.size ≤ W'.heap.size := Nat.le_trans (by simp) hg.size
 have mm : ∀ (g : Nat) (c : Array Value) (e : TypeId),Und e → W.heap[g]? = some (.cells c e (0,0)) → W'.heap[g]? = W.heap[g]? := fun g c e he hc => by
  have hlt := blk_lt hc
  refine (hg.block g (by simp;omega) (fun e2 => ?_)).trans (heap_alloc_old W ob hlt)
  obtain ⟨c2,hc2⟩ := own_kind h.row e2.symm
  rw [hc] at hc2
  injection hc2 with hc2
  injection hc2 with _ hc2
  subst hc2
  rcases he with he | he | he | he <;> exact absurd he (by decide)
 refine ⟨by simp [h.len],by rw [List.length_append,cellsO_snoc h.len];exact hr,fun i p x hp hx => ?_,fun x hx g hgx => ?_,fun i j x y hij hx hy => ?_⟩
 ·rcases snoc_get hp with ⟨hp,hi⟩ | ⟨rfl,rfl⟩
  ·rcases snoc_get hx with ⟨hx,-⟩ | ⟨e,-⟩
   ·obtain ⟨h1,h2,h3⟩ := h.own i p x hp hx
    exact ⟨h1.mv mm,h2,Nat.le_trans h3 hs⟩
   ·have := h.len;omega
  ·rcases snoc_get hx with ⟨-,hi⟩ | ⟨-,rfl⟩
   ·have := h.len;omega
   ·exact ⟨hO.mv mm,hB,hs⟩
 ·rcases List.mem_append.1 hx with hx | hx
  ·exact h.low x hx g hgx
  ·rw [List.mem_singleton.1 hx] at hgx ⊢
   exact OpO.lt (x := ⟨dv,cv,fv,bv,kvs,b,W.heap.size⟩) hO hgx
 ·rcases snoc_get hx with ⟨hx,hi⟩ | ⟨rfl,rfl⟩
  ·rcases snoc_get hy with ⟨hy,-⟩ | ⟨-,rfl⟩
   ·exact h.sep i j x y hij hx hy
   ·exact hold x (List.mem_of_getElem? hx)
  ·have := (List.getElem?_eq_some_iff.1 hy).1
   simp at this;omega
end Go.Proofs.YtpkmekdpmkfcdaaGreatDoor.Sr
namespace Go.Proofs.YtpkmekdpmkfcdaaGreatDoor.Sr
set_option linter.unusedVariables false
set_option linter.unusedSimpArgs false
open Go.RowKit Go.Proofs.YtpkmekdpmkfcdaaGreatDoor.Wd Go.Proofs.YtpkmekdpmkfcdaaGreatDoor.Px Go.Proofs.YtpkmekdpmkfcdaaGreatDoor.By Go.Proofs.YtpkmekdpmkfcdaaGreatDoor.En Go.Proofs.YtpkmekdpmkfcdaaGreatDoor.Pl Go.Proofs.YtpkmekdpmkfcdaaGreatDoor.Pf Go.Proofs.YtpkmekdpmkfcdaaGreatDoor.Sc
def strLen : Value → Nat
 | .string s => s.size
 | _ => 0
theorem infoOp : (Tryz.prog.info? 108).map (fun i => (i.zero,i.size,i.bytes)) = some (some (.agg (opC opp0 nl nl nl nl)),14,176) := by kernel_rfl
def ParseR (r : Except (Nat × Int) (Int × List Opp)) (w : World) (e : Ending) (w' : World) : Prop := match r with
 | .ok (n,l) => ∃ A c vs,e = .returned (.tuple #[.agg #[.int .i64 n,.slice A l.length c],.int .i64 0,.int .i64 0]) ∧ ORow w.heap.size (.slice A l.length c) l vs w'
 | .error (no,x) => e = .returned (.tuple #[.agg #[.int .i64 0,.slice none 0 0],.int .i64 (no : Int),.int .i64 x])
/-- between two lines: the result, the script, its steps -/
structure PIn (w : World) (R S : Nat) (sec : Int) (v : Value) (l : List Opp) (vs : List Opv) (W : World) : Prop where
 r : Blk R #[.int .i64 0,.slice none 0 0] 60 W
 s : Blk S #[.int .i64 sec,v] 60 W
 o : ORow w.heap.size v l vs W
 b : Below w.heap.size w W
theorem PIn.on {w : World} {R S : Nat} {sec : Int} {v : Value} {l : List Opp} {vs : List Opv} {W W' : World} (h : PIn w R S sec v l vs W) (hb : Below W.heap.size W W') : PIn w R S sec v l vs W' :=
 ⟨h.r.on hb,h.s.on hb,h.o.on hb,h.b.trans (hb.mono h.b.size)⟩
theorem split_as {l : List UInt8} {o : Option (List (List UInt8))} (h : Hid (wrds l = o)) (hl : l.length ≤ 1900000) (w : World) :
  Calls Tryz.prog 30 #[.string ⟨l.toArray⟩] w fun e w' => SplitR o w e w' ∧ Below w.heap.size w w' := by
 have := split_any l hl w
 rwa [h.out] at this
theorem cut_as {r a b : List UInt8} {o : Option Nat} {x : Bool} (ho : Hid (CutAt 10 r o)) (hc : Hid (cutV r o = .tuple #[.string ⟨a.toArray⟩,.string ⟨b.toArray⟩,.bool x])) (hr : r.length ≤ 1900000) (w : World) :
  Calls Tryz.prog 40 #[.string ⟨r.toArray⟩,.string ⟨#[10]⟩] w fun e w' => e = .returned (.tuple #[.string ⟨a.toArray⟩,.string ⟨b.toArray⟩,.bool x]) ∧ Below w.heap.size w w' := by
 obtain ⟨o2,ho2,h⟩ := cut_any r 10 (by omega) w
 rw [cut_uniq ho2 ho.out,hc.out] at h
 exact h
theorem first_as {x : List UInt8} {xs : List (List UInt8)} {N : Nat} (HN : Hid ((x :: xs).length = N)) {v : Value} (hv : Hid (ofF (firstS (x :: xs)) = v)) (A : Option Addr) (c : Nat) (w : World) (hE : Env w) (hl : N ≤ 2000000) (hs : Shows strc w w.heap.size A (x :: xs)) (hw : ∀ y ∈ x :: xs,y.length ≤ 2000000) :
  Calls Tryz.prog 41 #[.slice A N c] w fun e w' => e = .returned v ∧ Below w.heap.size w w' := by
 have hn := HN.out
 subst hn
 have := first_any x xs A c w hE hl hs hw
 rwa [hv.out] at this
theorem step_as {x : List UInt8} {xs : List (List UInt8)} {N : Nat} (HN : Hid ((x :: xs).length = N)) {r : Except Int Opp} (hr : Hid (stepS (x :: xs) = r)) (A : Option Addr) (c : Nat) (w : World) (hE : Env w) (hT : Tabs w) (hl : N ≤ 2000000) (hc : N ≤ c) (hs : Shows strc w w.heap.size A (x :: xs)) (hw : ∀ y ∈ x :: xs,y.length ≤ 2000000) :
  Calls Tryz.prog 42 #[.slice A N c] w fun e w' => StepR r w e w' ∧ Below w.heap.size w w' := by
 have hn := HN.out
 subst hn
 have := step_any x xs A c w hE hT hl hc hs hw
 rwa [hr.out] at this
theorem first_err {l : List (List UInt8)} {e : Int} (h : firstS l = .error e) : e ≠ 0 := by
 unfold firstS at h
 split at h
 ·injection h with h;subst h;decide
 ·split at h
  ·injection h with h;subst h;decide
  ·split at h
   ·cases h
   ·injection h with h;subst h;decide
/-- a slot of the script is set -/
theorem PIn.set {w : World} {R S : Nat} {sec sec' : Int} {v v' : Value} {l : List Opp} {vs : List Opv} {W : World} (h : PIn w R S sec v l vs W) (hRS : R ≠ S) (hS : w.heap.size ≤ S) {j : Nat} {u : Value} (hj : (#[.int .i64 sec,v] : Array Value).setIfInBounds j u = #[.int .i64 sec',v']) (ho : ORow w.heap.size v' l vs (W.setCell ⟨S,j,none⟩ u)) : PIn w R S sec' v' l vs (W.setCell ⟨S,j,none⟩ u) :=
 ⟨(Below.heap_setCell W ⟨S,j,none⟩ u R hRS).trans h.r,by have := h.s.set j u;rwa [hj] at this,ho,h.b.setCell hS u⟩
/-- behind an append to the steps -/
theorem PIn.app {w : World} {R S : Nat} {sec : Int} {v : Value} {l : List Opp} {vs : List Opv} {W W' : World} (h : PIn w R S sec v l vs W) {o : Obj} (hg : (W.alloc o).grownBy W' v.ownBlock) :
  Blk R #[.int .i64 0,.slice none 0 0] 60 W' ∧ Blk S #[.int .i64 sec,v] 60 W' ∧ Below w.heap.size w W' := by
 have kp : ∀ {Q : Nat} {a : Array Value},Blk Q a 60 W → Blk Q a 60 W' := fun hQ =>
  (hg.block _ (by have := hQ.lt;simp;omega) (fun e => hQ.apart h.o.row (by decide) e.symm rfl)).trans ((heap_alloc_old W o hQ.lt).trans hQ)
 exact ⟨kp h.r,kp h.s,(h.b.alloc h.b.size o).grown hg (by have := h.b.size;simp;omega) (fun r e => (h.o.row.lt r e).1)⟩
theorem OpO.put {B P : Nat} {o : Opp} {dv cv fv bv : Value} {kvs : List Value} {W : World} (h : OpO B o dv cv fv bv kvs W) {a : Array Value} (hP : Blk P a 108 W) (v0 v1 v2 v3 v4 v5 v6 v7 v8 v9 v10 v11 v12 v13 : Value) : OpO B o dv cv fv bv kvs (put14 W P v0 v1 v2 v3 v4 v5 v6 v7 v8 v9 v10 v11 v12 v13) :=
 h.move fun g c e he hc => put14_other W (fun e2 => by
  subst e2
  unfold Blk at hP
  rw [hP] at hc
  injection hc with hc
  injection hc with _ hc
  exact he hc.symm) v0 v1 v2 v3 v4 v5 v6 v7 v8 v9 v10 v11 v12 v13
set_option maxRecDepth 20000 in
/-- the result is written and read at the end -/
theorem close_scr {W : World} {R : Nat} {a b v0 v1 : Value} {t : TypeId} (h : Blk R #[a,b] t W) {tmps : Array Value} {Qp : Ending → World → Prop}
  (no x : Int) (h2 : (tmps[2]?).getD undef = .pointer (some ⟨R,0,none⟩)) (h3 : (tmps[3]?).getD undef = .int .i64 no) (h4 : (tmps[4]?).getD undef = .int .i64 x)
  (hQ : ∀ W8 : World,Blk R #[v0,v1] t W8 → (∀ B a,B ≤ R → Below B a W → Below B a W8) → (∀ g,g ≠ R → W8.heap[g]? = W.heap[g]?) → W.heap.size ≤ W8.heap.size → Qp (.returned (.tuple #[.agg #[v0,v1],.int .i64 no,.int .i64 x])) W8) :
  bodyPost Tryz.prog Tryz.f18 Qp .ret { tmps := tmps,defers := [] } ((W.setCell ⟨R,0,none⟩ v0).setCell ⟨R,1,none⟩ v1) := by
 have h8 : Blk R #[v0,v1] t ((W.setCell ⟨R,0,none⟩ v0).setCell ⟨R,1,none⟩ v1) := (h.set 0 v0).set 1 v1
 have hQ' := hQ _ h8 (fun B a hB hb => (hb.setCell hB v0).setCell hB v1) (fun g hg => (Below.heap_setCell _ ⟨R,1,none⟩ v1 g hg).trans (Below.heap_setCell W ⟨R,0,none⟩ v0 g hg)) (by simp [World.setCell])
 clear hQ h
 generalize ((W.setCell ⟨R,0,none⟩ v0).setCell ⟨R,1,none⟩ v1) = W8 at h8 hQ' ⊢
 have e0 : W8.cell? ⟨R,0,none⟩ = some v0 := h8.cell rfl
 have e1 : W8.cell? ⟨R,1,none⟩ = some v1 := h8.cell rfl
 clear h8
 exact bodyPost_ret (v := .tuple #[.agg #[v0,v1],.int .i64 no,.int .i64 x]) (by simp [results,Tryz.results18,go_sem, *]) rfl hQ'
set_option maxRecDepth 100000 in
set_option maxHeartbeats 4000000 in
theorem parse_in (t : List UInt8) (ht : t.length ≤ 1048576) (w : World) (hE : Env w) (hT : Tabs w) :
  Calls Tryz.prog 18 #[.string ⟨t.toArray⟩] w fun e w' => ParseR (parseS t) w e w' ∧ Below w.heap.size w w' := by
 obtain ⟨i0,hi0,hz0,hz1,hz2'⟩ := info_parts infoOp
 have i1 : ¬ (1048576 : Int) < (t.length : Int) := by omega
 have HPe : Hid (∀ q,goL (none,[]) 1 (split 10 t) = .error q → parseS t = .error q) := Lib.hid (fun q h => by unfold parseS;rw [if_neg (by omega),h])
 have HPn : Hid (∀ l,goL (none,[]) 1 (split 10 t) = .ok (none,l) → parseS t = .error (0,227)) := Lib.hid (fun q h => by unfold parseS;rw [if_neg (by omega),h])
 have HPs : Hid (∀ n l,goL (none,[]) 1 (split 10 t) = .ok (some n,l) → parseS t = .ok (n,l)) := Lib.hid (fun n q h => by unfold parseS;rw [if_neg (by omega),h])
 go_enter Tryz.func18,Tryz.ntmps18
 go_wp2
 go_loopw [0,6,7] (fun a b n wr => ∃ (r : List UInt8) (st : Option Int × List Opp) (no k : Nat) (vs : List Opv) (A : Option Addr) (c : Nat),a = .string ⟨r.toArray⟩ ∧ b = .bool st.1.isSome ∧ n = .int .i64 (no : Int) ∧ Hid (PAt t r st no) ∧ no + r.length ≤ 1048576 ∧ Hid (st.2.length = k) ∧ k ≤ 2000 ∧ Hid (PIn w w.heap.size (w.heap.size + 1) (st.1.getD 0) (.slice A k c) st.2 vs wr)) (fun a _ _ _ => strLen a)
 case atStart =>
  have hb0 := (Below.refl w.heap.size w).alloc (Nat.le_refl _) (.cells #[.int .i64 0,.slice none 0 0] 60)
  have h1 : Blk (w.heap.size + 1) #[.int .i64 0,.slice none 0 0] 60 ((w.alloc (.cells #[.int .i64 0,.slice none 0 0] 60)).alloc (.cells #[.int .i64 0,.slice none 0 0] 60)) := by
   have := blk_new (w.alloc (.cells #[.int .i64 0,.slice none 0 0] 60)) #[.int .i64 0,.slice none 0 0] 60
   rwa [World.size_alloc] at this
  exact ⟨t,(none,[]),0,0,[],none,0,rfl,rfl,rfl,Lib.hid (PAt.start t),by omega,Lib.hid rfl,by omega,Lib.hid ⟨Blk.on (blk_new w _ _) (one _ _),h1,ORow.nil _ _,hb0.alloc hb0.size _⟩⟩
 case round =>
  obtain ⟨r,⟨so,l⟩,no,k,vs,A,c,rfl,rfl,rfl,HA,hno,HK,hk,HI⟩ := hrel
  by_cases hr : r = []
  ·subst hr
   have HD := Lib.hid HA.out.done
   obtain ⟨hR,hS,hO,hb⟩ := HI.out
   have f0 := hR.open_
   have r0 : wr.cell? ⟨w.heap.size,0,none⟩ = some (.int .i64 0) := hR.cell rfl
   have r1 : wr.cell? ⟨w.heap.size,1,none⟩ = some (.slice none 0 0) := hR.cell rfl
   have c0 : wr.cell? ⟨w.heap.size + 1,0,none⟩ = some (.int .i64 (so.getD 0)) := hS.cell rfl
   have c1 : wr.cell? ⟨w.heap.size + 1,1,none⟩ = some (.slice A k c) := hS.cell rfl
   cases so with
   | none =>
    clear hS hO hb hR
    go_wp2
    obtain ⟨hR,hS,hO,hb⟩ := HI.out
    refine close_scr hR 0 227 rfl rfl rfl fun W8 h8 hb8 ho8 hs8 => ⟨?_,hb8 _ _ (Nat.le_refl _) hb⟩
    rw [HPn.out _ HD.out]
    exact rfl
   | some n =>
    clear hS hO hb hR
    go_wp2
    obtain ⟨hR,hS,hO,hb⟩ := HI.out
    refine close_scr hR 0 0 rfl rfl rfl fun W8 h8 hb8 ho8 hs8 => ⟨?_,hb8 _ _ (Nat.le_refl _) hb⟩
    rw [HPs.out _ _ HD.out]
    have hk2 : l.length = k := HK.out
    subst hk2
    refine ⟨A,c,vs,rfl,hO.mv hs8 fun g cc e he hc => ho8 g fun e2 => ?_⟩
    subst e2
    unfold Blk at hR
    rw [hR] at hc
    injection hc with hc
    injection hc with _ hc
    subst hc
    rcases he with (he | he | he | he) | he <;> exact absurd he (by decide)
  ·obtain ⟨o,ho,-⟩ := cut_any r 10 (by omega) w
   obtain ⟨x,hx⟩ := cutV_of r o
   obtain ⟨hrl,hal⟩ := rest_len ho hr
   have HC := Lib.hid ho
   have HX := Lib.hid hx
   have HN : Hid (∀ st',lineS (so,l) (headOf r o) = .ok st' → PAt t (restOf r o) st' (no + 1)) := Lib.hid fun st' h => HA.out.next ho h
   have HB : Hid (∀ e,lineS (so,l) (headOf r o) = .error e → parseS t = .error (no + 1,e)) := Lib.hid fun e h => HPe.out _ (HA.out.bad ho h)
   clear ho hx
   have hcut := fun W => cut_as HC HX (by omega) W
   have hr2 : (r == []) = false := by simpa using hr
   clear HC HX
   generalize headOf r o = a at *
   generalize restOf r o = r2 at *
   have hw1 : IntKind.i64.wrap ((no : Int) + 1) = (no : Int) + 1 := IntWalk.i64_in _ ⟨by omega,by omega⟩
   obtain ⟨ow,how⟩ : ∃ ow,wrds a = ow := ⟨_,rfl⟩
   have HW := Lib.hid how
   have hspl := fun W => split_as HW (by omega) W
   cases ow with
   | none =>
    have HE := Lib.hid (HB.out 224 (by unfold lineS;rw [how]))
    clear how HW
    go_wp2_with (first
     | (go_at_call 40;refine (hcut _).mono ?_;rintro e w1 ⟨rfl,hb1⟩;have HI1 := Lib.hid (HI.out.on hb1))
     | (go_at_call 30;refine (hspl _).mono ?_;rintro e w2 ⟨rfl,hb2⟩;have HI2 := Lib.hid (HI1.out.on hb2);have f0 := HI2.out.r.open_;have r0 : w2.cell? ⟨w.heap.size,0,none⟩ = some (.int .i64 0) := HI2.out.r.cell rfl;have r1 : w2.cell? ⟨w.heap.size,1,none⟩ = some (.slice none 0 0) := HI2.out.r.cell rfl))
    refine close_scr HI2.out.r ((no + 1 : Nat) : Int) 224 rfl rfl rfl fun W8 h8 hb8 ho8 hs8 => ⟨?_,hb8 _ _ (Nat.le_refl _) HI2.out.b⟩
    rw [HE.out]
    exact rfl
   | some ws =>
    cases ws with
    | nil =>
     have HQ := Lib.hid (HN.out (so,l) (by unfold lineS;rw [how]))
     clear how HW
     go_wp2_with (first
      | (go_at_call 40;refine (hcut _).mono ?_;rintro e w1 ⟨rfl,hb1⟩;have HI1 := Lib.hid (HI.out.on hb1))
      | (go_at_call 30;refine (hspl _).mono ?_;rintro e w2 ⟨⟨Ae,ke,rfl,-⟩,hb2⟩;have HI2 := Lib.hid (HI1.out.on hb2)))
     go_roundw
     case rel => exact ⟨r2,(so,l),no + 1,k,vs,A,c,rfl,rfl,by go_num,HQ,by omega,HK,hk,HI2⟩
     case measure => exact hrl
    | cons x xs =>
     have hwl := wds_len a [] (x :: xs) how
     have hww := wds_le a.length a [] (x :: xs) (by simp) how
     have hww2 : ∀ y ∈ x :: xs,y.length ≤ 2000000 := fun y hy => by have := hww y hy;omega
     clear hww
     obtain ⟨N,hN⟩ : ∃ N,(x :: xs).length = N := ⟨_,rfl⟩
     have hN1 : 1 ≤ N := by simp at hN;omega
     have hN2 : N ≤ 2000000 := by rw [hN] at hwl;omega
     have hN0 : ((N : Int) == 0) = false := by rw [beq_eq_false_iff_ne];omega
     have HNN := Lib.hid hN
     cases so with
     | none =>
      cases hf : firstS (x :: xs) with
      | error z =>
       have HE := Lib.hid (HB.out z (by unfold lineS;rw [how];simp only [hf]))
       have hz : (z != 0) = true := by rw [bne_iff_ne];exact first_err hf
       have HF : Hid (ofF (firstS (x :: xs)) = .tuple #[.int .i64 0,.int .i64 z]) := Lib.hid (by rw [hf];rfl)
       clear how HW hf hN
       go_wp2_with (first
        | (go_at_call 40;refine (hcut _).mono ?_;rintro e w1 ⟨rfl,hb1⟩;have HI1 := Lib.hid (HI.out.on hb1))
        | (go_at_call 30;refine (hspl _).mono ?_;rintro e w2 ⟨⟨Ae,ke,rfl,hown⟩,hb2⟩;have HI2 := Lib.hid (HI1.out.on hb2);rw [HNN.out] at hown;obtain ⟨hs2,hke,-⟩ := own_shows (l := x :: xs) hown (Nat.le_refl _);clear hown;simp only [HNN.out])
        | (go_at_call 41;refine (first_as HNN HF _ _ _ (hE.on HI2.out.b) hN2 hs2 hww2).mono ?_;rintro e w3 ⟨rfl,hb3⟩;have HI3 := Lib.hid (HI2.out.on hb3);have fS := HI3.out.s.open_;have s0 : w3.cell? ⟨w.heap.size + 1,0,none⟩ = some (.int .i64 0) := HI3.out.s.cell rfl;have f0 := HI3.out.r.open_;have r0 : w3.cell? ⟨w.heap.size,0,none⟩ = some (.int .i64 0) := HI3.out.r.cell rfl;have r1 : w3.cell? ⟨w.heap.size,1,none⟩ = some (.slice none 0 0) := HI3.out.r.cell rfl))
       have hne : w.heap.size ≠ w.heap.size + 1 := by omega
       refine close_scr (show Blk w.heap.size _ _ (w3.setCell ⟨w.heap.size + 1,0,none⟩ (.int .i64 0)) from (Below.heap_setCell _ _ _ _ hne).trans HI3.out.r) ((no + 1 : Nat) : Int) z rfl rfl rfl fun W8 h8 hb8 ho8 hs8 => ⟨?_,hb8 _ _ (Nat.le_refl _) (HI3.out.b.setCell (by simp) _)⟩
       rw [HE.out]
       exact rfl
      | ok n =>
       have HQ := Lib.hid (HN.out (some n,l) (by unfold lineS;rw [how];simp only [hf]))
       have HF : Hid (ofF (firstS (x :: xs)) = .tuple #[.int .i64 n,.int .i64 0]) := Lib.hid (by rw [hf];rfl)
       clear how HW hf hN
       go_wp2_with (first
        | (go_at_call 40;refine (hcut _).mono ?_;rintro e w1 ⟨rfl,hb1⟩;have HI1 := Lib.hid (HI.out.on hb1))
        | (go_at_call 30;refine (hspl _).mono ?_;rintro e w2 ⟨⟨Ae,ke,rfl,hown⟩,hb2⟩;have HI2 := Lib.hid (HI1.out.on hb2);rw [HNN.out] at hown;obtain ⟨hs2,hke,-⟩ := own_shows (l := x :: xs) hown (Nat.le_refl _);clear hown;simp only [HNN.out])
        | (go_at_call 41;refine (first_as HNN HF _ _ _ (hE.on HI2.out.b) hN2 hs2 hww2).mono ?_;rintro e w3 ⟨rfl,hb3⟩;have HI3 := Lib.hid (HI2.out.on hb3);have fS := HI3.out.s.open_;have s0 : w3.cell? ⟨w.heap.size + 1,0,none⟩ = some (.int .i64 0) := HI3.out.s.cell rfl;have f0 := HI3.out.r.open_;have r0 : w3.cell? ⟨w.heap.size,0,none⟩ = some (.int .i64 0) := HI3.out.r.cell rfl;have r1 : w3.cell? ⟨w.heap.size,1,none⟩ = some (.slice none 0 0) := HI3.out.r.cell rfl))
       go_roundw
       case rel => exact ⟨r2,(some n,l),no + 1,k,vs,A,c,rfl,rfl,by go_num,HQ,by omega,HK,hk,Lib.hid (HI3.out.set (by omega) (by omega) rfl (HI3.out.o.set HI3.out.s _))⟩
       case measure => exact hrl
     | some n0 =>
      by_cases hk2 : 2000 ≤ k
      ·have j1 : (2000 : Int) ≤ (k : Int) := by omega
       have HE := Lib.hid (HB.out 221 (by unfold lineS;rw [how];simp only;rw [if_pos (by have : l.length = k := HK.out;omega)]))
       clear how HW hN
       go_wp2_with (first
        | (go_at_call 40;refine (hcut _).mono ?_;rintro e w1 ⟨rfl,hb1⟩;have HI1 := Lib.hid (HI.out.on hb1))
        | (go_at_call 30;refine (hspl _).mono ?_;rintro e w2 ⟨⟨Ae,ke,rfl,hown⟩,hb2⟩;have HI2 := Lib.hid (HI1.out.on hb2);rw [HNN.out] at hown;obtain ⟨hs2,hke,-⟩ := own_shows (l := x :: xs) hown (Nat.le_refl _);clear hown;simp only [HNN.out];have s1 : w2.cell? ⟨w.heap.size + 1,1,none⟩ = some (.slice A k c) := HI2.out.s.cell rfl;have f0 := HI2.out.r.open_;have r0 : w2.cell? ⟨w.heap.size,0,none⟩ = some (.int .i64 0) := HI2.out.r.cell rfl;have r1 : w2.cell? ⟨w.heap.size,1,none⟩ = some (.slice none 0 0) := HI2.out.r.cell rfl))
       refine close_scr HI2.out.r ((no + 1 : Nat) : Int) 221 rfl rfl rfl fun W8 h8 hb8 ho8 hs8 => ⟨?_,hb8 _ _ (Nat.le_refl _) HI2.out.b⟩
       rw [HE.out]
       exact rfl
      ·have j1 : ¬ (2000 : Int) ≤ (k : Int) := by omega
       have j2 : (k : Int) < 2000 := by omega
       obtain ⟨ro,hro⟩ : ∃ ro,stepS (x :: xs) = ro := ⟨_,rfl⟩
       have HRO := Lib.hid hro
       clear HW hN
       go_upto_region 10 with (first
        | (go_at_call 40;refine (hcut _).mono ?_;rintro e w1 ⟨rfl,hb1⟩;have HI1 := Lib.hid (HI.out.on hb1))
        | (go_at_call 30;refine (hspl _).mono ?_;rintro e w2 ⟨⟨Ae,ke,rfl,hown⟩,hb2⟩;have HI2 := Lib.hid (HI1.out.on hb2);rw [HNN.out] at hown;obtain ⟨hs2,hke,-⟩ := own_shows (l := x :: xs) hown (Nat.le_refl _);clear hown;simp only [HNN.out];have s1 : w2.cell? ⟨w.heap.size + 1,1,none⟩ = some (.slice A k c) := HI2.out.s.cell rfl))
       have hb4 : Below w2.heap.size w2 (w2.alloc (.cells (opC opp0 nl nl nl nl) 108)) := one w2 _
       have hP4 : Blk w2.heap.size (opC opp0 nl nl nl nl) 108 (w2.alloc (.cells (opC opp0 nl nl nl nl) 108)) := blk_new w2 _ _
       have hz4 : (w2.alloc (.cells (opC opp0 nl nl nl nl) 108)).heap.size = w2.heap.size + 1 := World.size_alloc _ _
       change Code.wp _ _ _ _ (w2.alloc (.cells (opC opp0 nl nl nl nl) 108))
       generalize (w2.alloc (.cells (opC opp0 nl nl nl nl) 108)) = W4 at hb4 hP4 hz4 ⊢
       have hbw : Below w.heap.size w W4 := HI2.out.b.trans (hb4.mono HI2.out.b.size)
       have hs4 : Shows strc W4 W4.heap.size Ae (x :: xs) := (hs2.below hb4).more hb4.size
       have hold : ∀ y ∈ vs,y.top ≤ w2.heap.size := fun y hy => by
        obtain ⟨i,hi⟩ := List.mem_iff_getElem?.1 hy
        obtain ⟨d,hd⟩ : ∃ d,l[i]? = some d := ⟨_,List.getElem?_eq_getElem (by have := HI2.out.o.len;rw [← this];exact (List.getElem?_eq_some_iff.1 hi).1)⟩
        exact (HI2.out.o.own i d y hd hi).2.2
       have hPR : w.heap.size ≤ w2.heap.size := HI2.out.b.size
       have HOLD := Lib.hid hold
       clear hold hs2 s1 hb2
       have hstep := fun (h1 : Env W4) (h2 : Tabs W4) => step_as HNN HRO Ae ke W4 h1 h2 hN2 hke hs4 hww2
       have hstep := hstep (hE.on hbw) (hT.on hbw)
       clear hs4 hbw
       obtain ⟨P,hPe⟩ : ∃ P,w2.heap.size = P := ⟨_,rfl⟩
       rw [hPe] at hP4 hb4 hz4 hPR ⊢
       have HPE := Lib.hid hPe
       clear hPe
       cases ro with
       | error y =>
        have HE := Lib.hid (HB.out y (by unfold lineS;rw [how];simp only;rw [if_neg (by have : l.length = k := HK.out;omega),hro]))
        have hy : (y != 0) = true := by rw [bne_iff_ne];exact stepS_err hro
        clear how hro
        go_upto_region 11 with (go_at_call 42;refine hstep.mono ?_;rintro e w3 ⟨⟨o,dv,cv,fv,bv,⟨Ad,nd,cd,rfl⟩,⟨Ac,nc,cc,rfl⟩,⟨Af,nf,cf,rfl⟩,⟨Ab,nb,cb,rfl⟩,rfl⟩,hb3⟩;have hP3 := hP4.on hb3;obtain ⟨e0,e1,e2,e3,e4,e5,e6,e7,e8,e9,e10,e11,e12,e13,fr⟩ := opC_cells hP3;simp only [opp0,nl] at e0 e1 e2 e3 e4 e5 e6 e7 e8 e9 e10 e11 e12 e13;clear hstep;simp only [opC])
        clear e0 e1 e2 e3 e4 e5 e6 e7 e8 e9 e10 e11 e12 e13 fr
        have hb5 : Below P w2 (put14 w3 P (.int .i64 o.kind) (.int .i64 o.a) (.int .i64 o.k) (.int .i64 o.t) (.int .i64 o.x) (.int .i64 o.link) (.slice Ad nd cd) (.int .i64 o.sec) (.int .i64 o.nano) (.int .i64 o.blk) (.int .i64 o.wid) (.slice Ac nc cc) (.slice Af nf cf) (.slice Ab nb cb)) := put14_below (hb4.trans (hb3.mono (by omega))) (Nat.le_refl _) _ _ _ _ _ _ _ _ _ _ _ _ _ _
        have hP5 := put14_blk hP3 rfl (.int .i64 o.kind) (.int .i64 o.a) (.int .i64 o.k) (.int .i64 o.t) (.int .i64 o.x) (.int .i64 o.link) (.slice Ad nd cd) (.int .i64 o.sec) (.int .i64 o.nano) (.int .i64 o.blk) (.int .i64 o.wid) (.slice Ac nc cc) (.slice Af nf cf) (.slice Ab nb cb)
        change Code.wp _ _ _ _ (put14 w3 P (.int .i64 o.kind) (.int .i64 o.a) (.int .i64 o.k) (.int .i64 o.t) (.int .i64 o.x) (.int .i64 o.link) (.slice Ad nd cd) (.int .i64 o.sec) (.int .i64 o.nano) (.int .i64 o.blk) (.int .i64 o.wid) (.slice Ac nc cc) (.slice Af nf cf) (.slice Ab nb cb))
        generalize (put14 w3 P (.int .i64 o.kind) (.int .i64 o.a) (.int .i64 o.k) (.int .i64 o.t) (.int .i64 o.x) (.int .i64 o.link) (.slice Ad nd cd) (.int .i64 o.sec) (.int .i64 o.nano) (.int .i64 o.blk) (.int .i64 o.wid) (.slice Ac nc cc) (.slice Af nf cf) (.slice Ab nb cb)) = W5 at *
        have HI5 : Hid (PIn w w.heap.size (w.heap.size + 1) n0 (.slice A k c) l vs W5) := Lib.hid (HI2.out.on (by rw [HPE.out];exact hb5))
        have s1 : W5.cell? ⟨w.heap.size + 1,1,none⟩ = some (.slice A k c) := HI5.out.s.cell rfl
        obtain ⟨e0,e1,e2,e3,e4,e5,e6,e7,e8,e9,e10,e11,e12,e13,-⟩ := opC_cells (o := o) (dv := .slice Ad nd cd) (cv := .slice Ac nc cc) (fv := .slice Af nf cf) (bv := .slice Ab nb cb) hP5
        have hrow := HI5.out.o.row
        rw [HK.out] at hrow
        have hzw := HI5.out.b.size
        clear hb5 hP5 hP3 hP4 hb4 hb3
        go_wp2_with (at_builtin;go_loud (refine wpList_append_own _ rfl _ _ 58 rfl w.heap.size 108 i0 (.agg (opC opp0 nl nl nl nl)) 14 176 Tryz.underlying58 hi0 hz0 hz1 hz2' rfl (by decide) _ _ _ rfl (hrow.alloc _) ⟨W5.heap.size,0,none⟩ 1 1 [_,_,_,_,_,_,_,_,_,_,_,_,_,_] rfl rfl (cells_at rfl _ _) ?c2 ?c3 ?c4 ?c5 ?_))
        case c2 => intro u hu;simp at hu;rcases hu with rfl | rfl | rfl | rfl | rfl | rfl | rfl | rfl | rfl | rfl | rfl | rfl | rfl | rfl <;> rfl
        case c3 => unfold maxLen;omega
        case c4 => omega
        case c5 => simp;omega
        intro v' w5 hown' hgrow _
        obtain ⟨hR6,hS6,hb6⟩ := HI5.out.app hgrow
        clear e0 e1 e2 e3 e4 e5 e6 e7 e8 e9 e10 e11 e12 e13 s1 hrow
        have f0 := hR6.open_
        have r0 : w5.cell? ⟨w.heap.size,0,none⟩ = some (.int .i64 0) := hR6.cell rfl
        have r1 : w5.cell? ⟨w.heap.size,1,none⟩ = some (.slice none 0 0) := hR6.cell rfl
        have fS := hS6.open_
        have s1 : w5.cell? ⟨w.heap.size + 1,1,none⟩ = some (.slice A k c) := hS6.cell rfl
        obtain ⟨A',c',rfl,-⟩ := own_sl hown'
        have HR6 := Lib.hid hR6
        have HB6 := Lib.hid hb6
        clear hR6 hS6 hb6 hown' hgrow
        go_wp2
        have hne : w.heap.size ≠ w.heap.size + 1 := by omega
        refine close_scr (show Blk w.heap.size _ _ (w5.setCell ⟨w.heap.size + 1,1,none⟩ (.slice A' (k + 1) c')) from (Below.heap_setCell _ _ _ _ hne).trans HR6.out) ((no + 1 : Nat) : Int) y rfl rfl rfl fun W8 h8 hb8 ho8 hs8 => ⟨?_,hb8 _ _ (Nat.le_refl _) (HB6.out.setCell (by simp) _)⟩
        rw [HE.out]
        exact rfl
       | ok o2 =>
        have HQ := Lib.hid (HN.out (some n0,l ++ [o2]) (by unfold lineS;rw [how];simp only;rw [if_neg (by have : l.length = k := HK.out;omega),hro]))
        clear how hro
        go_upto_region 11 with (go_at_call 42;refine hstep.mono ?_;rintro e w3 ⟨⟨o,dv,cv,fv,bv,⟨Ad,nd,cd,rfl⟩,⟨Ac,nc,cc,rfl⟩,⟨Af,nf,cf,rfl⟩,⟨Ab,nb,cb,rfl⟩,ho2,rfl,kvs,hO⟩,hb3⟩;have hP3 := hP4.on hb3;obtain ⟨e0,e1,e2,e3,e4,e5,e6,e7,e8,e9,e10,e11,e12,e13,fr⟩ := opC_cells hP3;simp only [opp0,nl] at e0 e1 e2 e3 e4 e5 e6 e7 e8 e9 e10 e11 e12 e13;clear hstep;simp only [opC])
        clear e0 e1 e2 e3 e4 e5 e6 e7 e8 e9 e10 e11 e12 e13 fr
        have hb5 : Below P w2 (put14 w3 P (.int .i64 o.kind) (.int .i64 o.a) (.int .i64 o.k) (.int .i64 o.t) (.int .i64 o.x) (.int .i64 o.link) (.slice Ad nd cd) (.int .i64 o.sec) (.int .i64 o.nano) (.int .i64 o.blk) (.int .i64 o.wid) (.slice Ac nc cc) (.slice Af nf cf) (.slice Ab nb cb)) := put14_below (hb4.trans (hb3.mono (by omega))) (Nat.le_refl _) _ _ _ _ _ _ _ _ _ _ _ _ _ _
        have hP5 := put14_blk hP3 rfl (.int .i64 o.kind) (.int .i64 o.a) (.int .i64 o.k) (.int .i64 o.t) (.int .i64 o.x) (.int .i64 o.link) (.slice Ad nd cd) (.int .i64 o.sec) (.int .i64 o.nano) (.int .i64 o.blk) (.int .i64 o.wid) (.slice Ac nc cc) (.slice Af nf cf) (.slice Ab nb cb)
        have hO5 := hO.put hP3 (.int .i64 o.kind) (.int .i64 o.a) (.int .i64 o.k) (.int .i64 o.t) (.int .i64 o.x) (.int .i64 o.link) (.slice Ad nd cd) (.int .i64 o.sec) (.int .i64 o.nano) (.int .i64 o.blk) (.int .i64 o.wid) (.slice Ac nc cc) (.slice Af nf cf) (.slice Ab nb cb)
        rw [hz4] at hO5
        rw [ho2] at HQ
        clear hO ho2
        change Code.wp _ _ _ _ (put14 w3 P (.int .i64 o.kind) (.int .i64 o.a) (.int .i64 o.k) (.int .i64 o.t) (.int .i64 o.x) (.int .i64 o.link) (.slice Ad nd cd) (.int .i64 o.sec) (.int .i64 o.nano) (.int .i64 o.blk) (.int .i64 o.wid) (.slice Ac nc cc) (.slice Af nf cf) (.slice Ab nb cb))
        generalize (put14 w3 P (.int .i64 o.kind) (.int .i64 o.a) (.int .i64 o.k) (.int .i64 o.t) (.int .i64 o.x) (.int .i64 o.link) (.slice Ad nd cd) (.int .i64 o.sec) (.int .i64 o.nano) (.int .i64 o.blk) (.int .i64 o.wid) (.slice Ac nc cc) (.slice Af nf cf) (.slice Ab nb cb)) = W5 at *
        have HI5 : Hid (PIn w w.heap.size (w.heap.size + 1) n0 (.slice A k c) l vs W5) := Lib.hid (HI2.out.on (by rw [HPE.out];exact hb5))
        have s1 : W5.cell? ⟨w.heap.size + 1,1,none⟩ = some (.slice A k c) := HI5.out.s.cell rfl
        obtain ⟨e0,e1,e2,e3,e4,e5,e6,e7,e8,e9,e10,e11,e12,e13,-⟩ := opC_cells (o := o) (dv := .slice Ad nd cd) (cv := .slice Ac nc cc) (fv := .slice Af nf cf) (bv := .slice Ab nb cb) hP5
        have hrow := HI5.out.o.row
        rw [HK.out] at hrow
        have hzw := HI5.out.b.size
        clear hb5 hP5 hP3 hP4 hb4 hb3
        go_wp2_with (at_builtin;go_loud (refine wpList_append_own _ rfl _ _ 58 rfl w.heap.size 108 i0 (.agg (opC opp0 nl nl nl nl)) 14 176 Tryz.underlying58 hi0 hz0 hz1 hz2' rfl (by decide) _ _ _ rfl (hrow.alloc _) ⟨W5.heap.size,0,none⟩ 1 1 [_,_,_,_,_,_,_,_,_,_,_,_,_,_] rfl rfl (cells_at rfl _ _) ?c2 ?c3 ?c4 ?c5 ?_))
        case c2 => intro u hu;simp at hu;rcases hu with rfl | rfl | rfl | rfl | rfl | rfl | rfl | rfl | rfl | rfl | rfl | rfl | rfl | rfl <;> rfl
        case c3 => unfold maxLen;omega
        case c4 => omega
        case c5 => simp;omega
        intro v' w5 hown' hgrow _
        obtain ⟨hR6,hS6,hb6⟩ := HI5.out.app hgrow
        clear e0 e1 e2 e3 e4 e5 e6 e7 e8 e9 e10 e11 e12 e13 s1 hrow
        have f0 := hR6.open_
        have r0 : w5.cell? ⟨w.heap.size,0,none⟩ = some (.int .i64 0) := hR6.cell rfl
        have r1 : w5.cell? ⟨w.heap.size,1,none⟩ = some (.slice none 0 0) := hR6.cell rfl
        have fS := hS6.open_
        have s1 : w5.cell? ⟨w.heap.size + 1,1,none⟩ = some (.slice A k c) := hS6.cell rfl
        have HO6 := HI5.out.o.add hO5 (Nat.le_succ_of_le hPR) (fun y hy => by have := HOLD.out y hy;rw [HPE.out] at this;omega) _ (by rw [show l.length = k from HK.out];exact hown') hgrow
        obtain ⟨A',c',rfl,-⟩ := own_sl hown'
        have HI6 : Hid (PIn w w.heap.size (w.heap.size + 1) n0 (.slice A' (k + 1) c') (l ++ [o]) _ (w5.setCell ⟨w.heap.size + 1,1,none⟩ (.slice A' (k + 1) c'))) := Lib.hid ⟨(Below.heap_setCell _ _ _ _ (by simp)).trans hR6,hS6.set 1 _,HO6.set hS6 _,hb6.setCell (by simp) _⟩
        clear HO6 hO5
        clear hR6 hS6 hb6 hown' hgrow
        go_wp2
        go_roundw
        case rel => exact ⟨r2,(some n0,l ++ [o]),no + 1,k + 1,_,A',c',rfl,rfl,by go_num,HQ,by omega,Lib.hid (by have : l.length = k := HK.out;simp;omega),by omega,HI6⟩
        case measure => exact hrl
end Go.Proofs.YtpkmekdpmkfcdaaGreatDoor.Sr
namespace Go.Proofs.YtpkmekdpmkfcdaaGreatDoor.Sr
set_option linter.unusedVariables false
set_option linter.unusedSimpArgs false
open Go.RowKit Go.Proofs.YtpkmekdpmkfcdaaGreatDoor.Wd Go.Proofs.YtpkmekdpmkfcdaaGreatDoor.Px Go.Proofs.YtpkmekdpmkfcdaaGreatDoor.By Go.Proofs.YtpkmekdpmkfcdaaGreatDoor.En Go.Proofs.YtpkmekdpmkfcdaaGreatDoor.Pl Go.Proofs.YtpkmekdpmkfcdaaGreatDoor.Pf Go.Proofs.YtpkmekdpmkfcdaaGreatDoor.Sc
set_option maxRecDepth 100000 in
theorem parse_many (t : ByteArray) (ht : 1048576 < t.size) (w : World) :
  Calls Tryz.prog 18 #[.string t] w fun e w' => ParseR (.error (0,221)) w e w' ∧ Below w.heap.size w w' := by
 have i1 : (1048576 : Int) < (t.size : Int) := by omega
 go_enter Tryz.func18,Tryz.ntmps18
 go_wp2
 exact bodyPost_ret (v := .tuple #[.agg #[.int .i64 0,.slice none 0 0],.int .i64 0,.int .i64 221]) (by simp [results,Tryz.results18,go_sem]) rfl ⟨rfl,(Below.refl _ w).alloc (Nat.le_refl _) _⟩
theorem parse_any (t : List UInt8) (w : World) (hE : Env w) (hT : Tabs w) :
  Calls Tryz.prog 18 #[.string ⟨t.toArray⟩] w fun e w' => ParseR (parseS t) w e w' ∧ Below w.heap.size w w' := by
 by_cases h : t.length ≤ 1048576
 ·exact parse_in t h w hE hT
 ·have hv : parseS t = .error (0,221) := by unfold parseS;rw [if_pos (by omega)]
  rw [hv]
  exact parse_many ⟨t.toArray⟩ (by show 1048576 < t.length;omega) w
/-! ### changes -/
theorem contains_as {t : List UInt8} {q : Int} (h : Hid (Lib.indexByte t 10 = q)) (w : World) :
  Calls Tryz.prog 29 #[.string ⟨t.toArray⟩,.string ⟨#[10]⟩] w fun e w' => e = .returned (.bool (decide (0 ≤ q))) ∧ w' = w := by
 have := Tryz.strings_Contains_one ⟨t.toArray⟩ 10 w
 rwa [show (⟨t.toArray⟩ : ByteArray).data.toList = t from rfl,h.out] at this
theorem list_as2 {l : List (List UInt8)} {n : Nat} (hn : Hid (l.length = n)) {r : Except Int (List Chg)} (hr : Hid (chgs l = r)) (A : Option Addr) (c : Nat) (w : World) (hE : Env w) (hT : Tabs w) (hl : n ≤ 2000000) (hc : n ≤ c) (hs : Shows strc w w.heap.size A l) (hw : ∀ x ∈ l,x.length ≤ 2000000) :
  Calls Tryz.prog 31 #[.slice A n c] w fun e w' => ListR r w e w' ∧ Below w.heap.size w w' := by
 have hn := hn.out
 subst hn
 have := list_any l A c w hE hT hl hc hs hw
 rwa [hr.out] at this
theorem ListR.form {r : Except Int (List Chg)} {w w' : World} {e : Ending} (h : ListR r w e w') : ∃ A n k x,e = .returned (.tuple #[.slice A n k,.int .i64 x]) := by
 cases r with
 | ok l => obtain ⟨A,k,kvs,rfl,-⟩ := h;exact ⟨_,_,_,_,rfl⟩
 | error x => exact ⟨_,_,_,_,h⟩
theorem ListR.low {r : Except Int (List Chg)} {w w2 w' : World} {e : Ending} (h : ListR r w e w') (hb : w2.heap.size ≤ w.heap.size) : ListR r w2 e w' := by
 cases r with
 | ok l => obtain ⟨A,k,kvs,rfl,h⟩ := h;exact ⟨A,k,kvs,rfl,h.low hb⟩
 | error x => exact h
theorem chg_many (t : ByteArray) (ht : 1048576 < t.size) (w : World) :
  Calls Tryz.prog 11 #[.string t] w fun e w' => ListR (.error 221) w e w' ∧ Below w.heap.size w w' := by
 have i1 : (1048576 : Int) < (t.size : Int) := by omega
 go_enter Tryz.func11,Tryz.ntmps11
 go_wp2
 go_ret2
 exact ⟨rfl,Below.refl _ _⟩
theorem parsec_any (t : List UInt8) (w : World) (hE : Env w) (hT : Tabs w) :
  Calls Tryz.prog 11 #[.string ⟨t.toArray⟩] w fun e w' => ListR (parseC t) w e w' ∧ Below w.heap.size w w' := by
 by_cases hlen : 1048576 < t.length
 ·have hv : parseC t = .error 221 := by unfold parseC;rw [if_pos hlen]
  rw [hv]
  exact chg_many ⟨t.toArray⟩ hlen w
 ·have i1 : ¬ (1048576 : Int) < (t.length : Int) := by omega
  have ht : t.length ≤ 1900000 := by omega
  rcases index_spec 10 t with ⟨h1,h2⟩ | ⟨p,h1,h2,h3,h4⟩
  ·have HQ := Lib.hid h1
   obtain ⟨ow,how⟩ : ∃ ow,wrds t = ow := ⟨_,rfl⟩
   have HW := Lib.hid how
   cases ow with
   | none =>
    have hv : parseC t = .error 224 := by unfold parseC;rw [if_neg hlen,if_neg h2,how]
    rw [hv]
    clear h1 h2 hv how hlen
    go_enter Tryz.func11,Tryz.ntmps11
    go_wp2_with (first
     | (go_at_call 29;refine (contains_as HQ _).mono ?_;rintro e w1 ⟨rfl,rfl⟩)
     | (go_at_call 30;refine (split_as HW ht _).mono ?_;rintro e w2 ⟨rfl,hb2⟩))
    go_ret2
    exact ⟨rfl,hb2⟩
   | some l =>
    obtain ⟨r,hr⟩ : ∃ r,chgs l = r := ⟨_,rfl⟩
    have HR := Lib.hid hr
    have hv : parseC t = r := by unfold parseC;rw [if_neg hlen,if_neg h2,how];exact hr
    rw [hv]
    have hwl := wds_len t [] l how
    have hww := wds_le t.length t [] l (by simp) how
    have hww2 : ∀ y ∈ l,y.length ≤ 2000000 := fun y hy => by have := hww y hy;omega
    obtain ⟨N,hN⟩ : ∃ N,l.length = N := ⟨_,rfl⟩
    have hN2 : N ≤ 2000000 := by rw [hN] at hwl;omega
    have HNN := Lib.hid hN
    clear h1 h2 hv how hlen hww hN hr hwl
    go_enter Tryz.func11,Tryz.ntmps11
    go_wp2_with (first
     | (go_at_call 29;refine (contains_as HQ _).mono ?_;rintro e w1 ⟨rfl,rfl⟩)
     | (go_at_call 30;refine (split_as HW ht _).mono ?_;rintro e w2 ⟨⟨Ae,ke,rfl,hown⟩,hb2⟩;rw [HNN.out] at hown;obtain ⟨hs2,hke,-⟩ := own_shows (l := l) hown (Nat.le_refl _);clear hown;simp only [HNN.out])
     | (go_at_call 31;refine (list_as2 HNN HR _ _ _ (hE.on hb2) (hT.on hb2) hN2 hke hs2 hww2).mono ?_;rintro e w3 ⟨hres,hb3⟩;obtain ⟨A2,n2,k2,x2,rfl⟩ := hres.form;have HRES := Lib.hid hres;clear hres))
    go_ret2
    exact ⟨HRES.out.low hb2.size,hb2.trans (hb3.mono hb2.size)⟩
  ·have HQ := Lib.hid h1
   have hv : parseC t = .error 224 := by
    unfold parseC
    rw [if_neg hlen,if_pos]
    rw [h3];simp
   rw [hv]
   have i2 : (0 : Int) ≤ (p : Int) := by omega
   clear h1 h3 h4 hv hlen
   go_enter Tryz.func11,Tryz.ntmps11
   go_wp2_with (go_at_call 29;refine (contains_as HQ _).mono ?_;rintro e w1 ⟨rfl,rfl⟩)
   go_ret2
   exact ⟨rfl,Below.refl _ _⟩
end Go.Proofs.YtpkmekdpmkfcdaaGreatDoor.Sr
