/- Memory: a book's lists of one kind, kept and grown, through writes and appends (elements of any number of cells). Memory: a book's lists that are grown beside those that are kept. Memory: a book while lists are kept. Memory: a book whose lists are written over and grown. Contracts: the marks of a book's lists. -/
import Derived.Test.YtpkmekdpmkfcdaaGreatDoorSmD
import Derived.Maps.AppendAt
import Derived.Laws.Append
import Derived.Laws.AppendOwn
import Derived.Test.YtpkmekdpmkfcdaaGreatDoorSmG
import Derived.Test.YtpkmekdpmkfcdaaGreatDoorSmE
import Derived.LoopN
namespace Go.Proofs.YtpkmekdpmkfcdaaGreatDoor.Kb
set_option linter.unusedVariables false
set_option linter.unusedSimpArgs false
open Go.RowKit Go.Proofs.YtpkmekdpmkfcdaaGreatDoor.Wd Go.Proofs.YtpkmekdpmkfcdaaGreatDoor.Px Go.Proofs.YtpkmekdpmkfcdaaGreatDoor.By Go.Proofs.YtpkmekdpmkfcdaaGreatDoor.Pf
open Go.Proofs.YtpkmekdpmkfcdaaGreatDoor.Sr (own_same own_kind own_low)
/-- what an append of one element of s cells to v leaves -/
structure ApS (s : Nat) (v : Value) (n : Nat) (W : World) (v' : Value) (W' : World) : Prop where
 grown : W.grownBy W' v.ownBlock
 at_ : v'.ownBlock = v.ownBlock ∨ v'.ownBlock = some W.heap.size
 keep : ∀ (b' : Nat) (e' : TypeId) (s' : Nat) (u : Value) (m : Nat) (ys : List Value),W.ownsRow b' e' s' u m ys → (∀ g,u.ownBlock = some g → v.ownBlock = some g → s' = s ∧ m ≤ n) → W'.ownsRow b' e' s' u m ys
set_option maxRecDepth 20000 in
theorem run_append_s {P : Program} (w : World) (t ty : TypeId) (base : Nat) (e : TypeId) (i : TypeInfo) (z : Value) (s bytes : Nat) (ht : P.underlying t = some (.slice e)) (hi : P.info? e = some i) (hz : i.zero = some z)
  (hsize : i.size = s) (hby : i.bytes = bytes) (hzs : z.cells.size = s) (hs0 : 0 < s) (v : Value) (n : Nat) (xs : List Value) (hown : w.ownsRow base e s v n xs)
  (ad : Addr) (c : Nat) (x : List Value) (hx : x.length = s) (hnews : ∀ j u,x[j]? = some u → w.cell? (ad.add j) = some u) (h1 : ∀ u ∈ x,u.oneCell' = true) (h63 : n + 1 ≤ maxLen) (hbytes : (n + 1) * bytes ≤ 140737488355328) (hbase : base ≤ w.heap.size) :
  ∃ v' w',(Builtin.append_ #[t,t] ty #[v,.slice (some ad) 1 c]).run P w = .ok v' w' ∧ w'.ownsRow base e s v' (n + 1) (xs ++ x) ∧ ApS s v n w v' w' := by
 have hlen : xs.length = n * s := hown.1
 have hns : (n + 1) * s = n * s + s := Nat.succ_mul n s
 have h63' : n + 1 ≤ 9223372036854775807 := by simpa [maxLen] using h63
 have hx1 : x.length = 1 * i.size := by rw [hx,hsize,Nat.one_mul]
 have fresh : ∀ (old : Nat),n ≤ old → ApS s v n w (.slice (some ⟨w.heap.size,0,none⟩) (n + 1) (grownCap w (n + 1) old e)) (w.drew.alloc (.cells (xs.toArray ++ x.toArray ++ Builtin.zeroCells z.cells (grownCap w (n + 1) old e - (n + 1))) e)) := fun old ho =>
  ⟨⟨rfl,rfl,rfl,by simp,fun k hk _ => heap_alloc_old w.drew _ hk⟩,.inr rfl,fun b' e' s' u m ys hu _ => own_same hu fun k hk => heap_alloc_old w.drew _ (hu.lt k hk).2⟩
 have freshO : ∀ (old : Nat),n ≤ old → (w.drew.alloc (.cells (xs.toArray ++ x.toArray ++ Builtin.zeroCells z.cells (grownCap w (n + 1) old e - (n + 1))) e)).ownsRow base e s (.slice (some ⟨w.heap.size,0,none⟩) (n + 1) (grownCap w (n + 1) old e)) (n + 1) (xs ++ x) := fun old ho => by
  have hge := grownCap_ge w (n + 1) old e
  have hcm : grownCap w (n + 1) old e ≤ maxLen := grownCap_le_maxLen w (n + 1) old e h63
  refine ⟨by rw [List.length_append,hlen,hx,hns],.inr ⟨w.heap.size,_,_,rfl,hbase,heap_alloc_new w.drew _,hge,hcm,?_,?_⟩⟩
  ·simp only [Array.size_append,List.size_toArray,size_zeroCells,hzs,hlen,hx]
   rw [Nat.sub_mul,hns]
   have := Nat.mul_le_mul_right s hge
   rw [hns] at this
   omega
  ·simp only [Array.toList_append]
   rw [show (n + 1) * s = (xs ++ x).length by rw [List.length_append,hlen,hx,hns]]
   exact List.take_left
 rcases hown.2 with ⟨rfl,rfl⟩ | ⟨g,cap,cur,rfl,hbg,hg,hnc,hcm,hcs,htake⟩
 ·obtain rfl : xs = [] := List.eq_nil_of_length_eq_zero (by rw [hlen];simp)
  have hr := run_append_nil (P := P) w t ty e i z ht hi hz ad 1 c x hx1 hnews (by omega) (by omega) (by rw [hby];omega)
  have f1 := fresh 0 (Nat.le_refl _)
  have f2 := freshO 0 (Nat.le_refl _)
  simp only [Nat.zero_add,List.nil_append,Array.empty_append] at f1 f2 ⊢
  exact ⟨_,_,hr,f2,f1⟩
 ·by_cases hroom : n + 1 ≤ cap
  ·have hcap : (n + 1) * s ≤ cap * s := Nat.mul_le_mul_right s hroom
   rw [hns] at hcap
   have hr := run_append_room (P := P) w t ty e i ht hi g n cap cur hg ad 1 c x hx1 hnews h1 hroom (by rw [hsize,hx];omega)
   rw [hsize] at hr
   have hsz : (cur.toList.take (n * s) ++ x ++ cur.toList.drop (n * s + x.length)).length = cur.size := by
    simp only [List.length_append,List.length_take,List.length_drop,Array.length_toList,hx];omega
   refine ⟨_,_,hr,⟨by rw [List.length_append,hlen,hx,hns],.inr ⟨g,cap,_,rfl,hbg,setRow_heap w g cur _ e _ hg,hroom,hcm,?_,?_⟩⟩,⟨rfl,rfl,rfl,by simp [World.setRow],fun k _ hk => setRow_other w g k _ (fun e => hk (by simp [Value.ownBlock,e]))⟩,.inl rfl,?_⟩
   ·rw [List.size_toArray,hsz,hcs]
   ·rw [htake,hns]
    simp only []
    rw [show n * s + s = (xs ++ x).length by rw [List.length_append,hlen,hx]]
    exact List.take_left
   ·intro b' e' s' u m ys hu hm
    by_cases hug : u.ownBlock = some g
    ·obtain ⟨rfl,hmn⟩ := hm g hug rfl
     rcases hu.2 with ⟨rfl,_⟩ | ⟨g2,cap2,cur2,rfl,hb2,hg2,hn2,hc2,hs2,ht2⟩
     ·simp [Value.ownBlock] at hug
     ·obtain rfl : g2 = g := by simpa [Value.ownBlock] using hug
      rw [hg] at hg2
      injection hg2 with hg2
      injection hg2 with e1 e2 _
      subst e1 e2
      refine ⟨hu.1,.inr ⟨g2,cap2,_,rfl,hb2,setRow_heap w g2 cur _ e _ hg,hn2,hc2,?_,?_⟩⟩
      ·rw [List.size_toArray,hsz];exact hs2
      ·have hms := Nat.mul_le_mul_right s' hmn
       rw [← ht2]
       show ((cur.toList.take (n * s') ++ x) ++ cur.toList.drop (n * s' + x.length)).take (m * s') = _
       rw [List.append_assoc,List.take_append_of_le_length (by rw [List.length_take,Array.length_toList];omega),List.take_take,Nat.min_eq_left hms]
    ·exact own_same hu fun k hk => setRow_other w g k _ (fun e => hug (by rw [hk,e]))
  ·have holds : ∀ j u,xs[j]? = some u → w.cell? ((⟨g,0,none⟩ : Addr).add j) = some u := hown.cells (g := g) rfl
   have hr := run_append_grow (P := P) w t ty e i z ht hi hz ⟨g,0,none⟩ n cap xs (by rw [hsize];exact hlen) holds ad 1 c x hx1 hnews (by omega) (by omega) (growslice_fits (by omega) (by rw [hby];exact hbytes))
   exact ⟨_,_,hr,freshO cap hnc,fresh cap hnc⟩
/-- at the operation, for the walk -/
theorem wpList_append_s {P : Program} {w : World} {ops : Array Oper} {rest : List Oper} {o : Oper} {a : Act} {Q : Exit → Act → World → Prop} (hgd : o.guard = none) (sl xo : Operand) (t : TypeId)
  (ho : o.op = .call { callee := .builtin .append,args := #[sl,xo],argTypes := #[t,t] })
  (base : Nat) (e : TypeId) (i : TypeInfo) (z : Value) (s bytes : Nat) (ht : P.underlying t = some (.slice e)) (hi : P.info? e = some i) (hz : i.zero = some z)
  (hsize : i.size = s) (hby : i.bytes = bytes) (hzs : z.cells.size = s) (hs0 : 0 < s) (v : Value) (n : Nat) (xs : List Value) (hs : a.eval sl = v) (hown : w.ownsRow base e s v n xs)
  (ad : Addr) (c : Nat) (x : List Value) (hx : a.eval xo = .slice (some ad) 1 c) (hxl : x.length = s) (hnews : ∀ j u,x[j]? = some u → w.cell? (ad.add j) = some u) (h1 : ∀ u ∈ x,u.oneCell' = true) (h63 : n + 1 ≤ maxLen) (hbytes : (n + 1) * bytes ≤ 140737488355328) (hbase : base ≤ w.heap.size)
  (h : ∀ v' w',w'.ownsRow base e s v' (n + 1) (xs ++ x) → ApS s v n w v' w' → wpList P ops Q rest (a.put o.dst v') w') : wpList P ops Q (o :: rest) a w := by
 obtain ⟨v',w',hr,h2,h3⟩ := run_append_s (P := P) w t o.type base e i z s bytes ht hi hz hsize hby hzs hs0 v n xs hown ad c x hxl hnews h1 h63 hbytes hbase
 refine wpList_plain hgd fun K hK => ?_
 unfold Oper.wp execOp
 simp only [ho,resolve,invoke,builtin,Sem.run_bind,Sem.run_pure,Result.andThen_ok,List.map_toArray,List.map_cons,List.map_nil,hs,hx,hr]
 exact hK _ _ (h v' w' h2 h3)
/-- as a step of a region that draws its order -/
theorem step_append_s {P : Program} {w : World} {ops : Array Oper} {o : Oper} {a : Act} {K : Act → World → Prop} {Q : Exit → Act → World → Prop} {E : Prop} (hgd : o.guard = none) (sl xo : Operand) (t : TypeId)
  (ho : o.op = .call { callee := .builtin .append,args := #[sl,xo],argTypes := #[t,t] })
  (base : Nat) (e : TypeId) (i : TypeInfo) (z : Value) (s bytes : Nat) (ht : P.underlying t = some (.slice e)) (hi : P.info? e = some i) (hz : i.zero = some z)
  (hsize : i.size = s) (hby : i.bytes = bytes) (hzs : z.cells.size = s) (hs0 : 0 < s) (v : Value) (n : Nat) (xs : List Value) (hs : a.eval sl = v) (hown : w.ownsRow base e s v n xs)
  (ad : Addr) (c : Nat) (x : List Value) (hx : a.eval xo = .slice (some ad) 1 c) (hxl : x.length = s) (hnews : ∀ j u,x[j]? = some u → w.cell? (ad.add j) = some u) (h1 : ∀ u ∈ x,u.oneCell' = true) (h63 : n + 1 ≤ maxLen) (hbytes : (n + 1) * bytes ≤ 140737488355328) (hbase : base ≤ w.heap.size)
  (h : ∀ v' w',w'.ownsRow base e s v' (n + 1) (xs ++ x) → ApS s v n w v' w' → K (a.put o.dst v') w') :
  if Region.wanted o (yielded ops a.tmps) = true then Oper.wp P o a w K Q else E := by
 obtain ⟨v',w',hr,h2,h3⟩ := run_append_s (P := P) w t o.type base e i z s bytes ht hi hz hsize hby hzs hs0 v n xs hown ad c x hxl hnews h1 h63 hbytes hbase
 have hw : Region.wanted o (yielded ops a.tmps) = true := by simp [Region.wanted,hgd]
 rw [if_pos hw]
 unfold Oper.wp execOp
 simp only [ho,resolve,invoke,builtin,Sem.run_bind,Sem.run_pure,Result.andThen_ok,List.map_toArray,List.map_cons,List.map_nil,hs,hx,hr]
 exact h v' w' h2 h3
def putC (g : Nat) : World → Nat → List Value → World
 | W,_,[] => W
 | W,o,x :: r => putC g (W.setCell ⟨g,o,none⟩ x) (o + 1) r
def putL (d : List Value) (o : Nat) (x : List Value) : List Value := d.take o ++ x ++ d.drop (o + x.length)
theorem putL_nil (d : List Value) (o : Nat) : putL d o [] = d := by simp [putL]
theorem putL_cons (d : List Value) (o : Nat) (u : Value) (r : List Value) (ho : o < d.length) : putL (d.set o u) (o + 1) r = putL d o (u :: r) := by
 unfold putL
 rw [List.take_add_one,List.take_set_of_le (Nat.le_refl _),List.getElem?_set_self ho,List.drop_set_of_lt (by omega)]
 simp only [Option.toList_some,List.append_assoc,List.singleton_append,List.cons_append,List.nil_append,List.length_cons]
 rw [show o + 1 + r.length = o + (r.length + 1) by omega]
theorem putL_len (d : List Value) (o : Nat) (x : List Value) (h : o + x.length ≤ d.length) : (putL d o x).length = d.length := by
 simp only [putL,List.length_append,List.length_take,List.length_drop];omega
theorem putL_take (d : List Value) (o : Nat) (x : List Value) (h : o ≤ d.length) : (putL d o x).take (o + x.length) = d.take o ++ x := by
 unfold putL
 rw [show o + x.length = (d.take o ++ x).length by rw [List.length_append,List.length_take];omega]
 exact List.take_left
theorem putC_other (g k : Nat) (hk : k ≠ g) : ∀ (x : List Value) (W : World) (o : Nat),(putC g W o x).heap[k]? = W.heap[k]?
 | [],_,_ => rfl
 | u :: r,W,o => (putC_other g k hk r _ _).trans (Below.heap_setCell W ⟨g,o,none⟩ u k hk)
theorem putC_size (g : Nat) : ∀ (x : List Value) (W : World) (o : Nat),(putC g W o x).heap.size = W.heap.size
 | [],_,_ => rfl
 | u :: r,W,o => (putC_size g r _ _).trans (by simp)
theorem putC_below (g : Nat) {b : Nat} {w0 : World} (hb : b ≤ g) : ∀ (x : List Value) (W : World) (o : Nat),Below b w0 W → Below b w0 (putC g W o x)
 | [],_,_,h => h
 | u :: r,W,o,h => putC_below g hb r _ _ (h.setCell (p := ⟨g,o,none⟩) hb u)
theorem putC_own {base : Nat} {e : TypeId} {s g n c : Nat} : ∀ (x : List Value) (W : World) (o : Nat) (d : List Value),W.ownsRow base e s (.slice (some ⟨g,0,none⟩) n c) n d → o + x.length ≤ d.length → (putC g W o x).ownsRow base e s (.slice (some ⟨g,0,none⟩) n c) n (putL d o x)
 | [],W,o,d,h,_ => by rw [putL_nil];exact h
 | u :: r,W,o,d,h,hl => by
  rw [List.length_cons] at hl
  rw [← putL_cons d o u r (by omega)]
  exact putC_own r _ (o + 1) _ (h.stored o u).1 (by rw [List.length_set];omega)
structure Kin where
 e : TypeId
 r : TypeId
 s : Nat
 o : Nat
 mkf : Nat → Nat → Nat → List Value
structure Lst where
 v : Value
 n : Nat
 d : List Value
def marks (κ : Kin) (p id n : Nat) : List Value := (List.range n).flatMap (κ.mkf p id)
def Okm (κ : Kin) : Prop := ∀ p id j,(κ.mkf p id j).length = κ.s
theorem marks_succ (κ : Kin) (p id n : Nat) : marks κ p id (n + 1) = marks κ p id n ++ κ.mkf p id n := by simp [marks,List.range_succ]
theorem marks_len {κ : Kin} (hk : Okm κ) (p id : Nat) : ∀ n,(marks κ p id n).length = n * κ.s
 | 0 => by simp [marks]
 | n + 1 => by rw [marks_succ,List.length_append,marks_len hk p id n,hk,Nat.succ_mul]
theorem marks_get {κ : Kin} (hk : Okm κ) (p id j i : Nat) (hi : i < κ.s) : ∀ n,j < n → (marks κ p id n)[j * κ.s + i]? = (κ.mkf p id j)[i]?
 | 0,h => by omega
 | n + 1,h => by
  rw [marks_succ]
  by_cases hj : j < n
  ·have h1 : j * κ.s + i < n * κ.s := by
    have := Nat.mul_le_mul_right κ.s (show j + 1 ≤ n from hj)
    rw [Nat.succ_mul] at this
    omega
   rw [List.getElem?_append_left (by rw [marks_len hk];exact h1)]
   exact marks_get hk p id j i hi n hj
  ·obtain rfl : j = n := by omega
   rw [List.getElem?_append_right (by rw [marks_len hk];omega),marks_len hk]
   congr 1
   omega
/-- the lists' rows -/
def Rws (κ : Kin) (B : Nat) (ls : List Lst) (W : World) : Prop := ∀ (i : Nat) (l : Lst),ls[i]? = some l → W.ownsRow B κ.e κ.s l.v l.n l.d
/-- no two of them share a block -/
def Apt (ls : List Lst) : Prop := ∀ (i j : Nat) (l l' : Lst) (g : Nat),ls[i]? = some l → ls[j]? = some l' → l.v.ownBlock = some g → l'.v.ownBlock = some g → i = j
/-- the book's two rows of a kind -/
structure Hd (κ : Kin) (B K : Nat) (v0 v2 : Value) (ls gs : List Lst) (W : World) : Prop where
 c0 : W.cell? ⟨K,κ.o,none⟩ = some v0
 c2 : W.cell? ⟨K,κ.o + 2,none⟩ = some v2
 o0 : W.ownsRow B κ.r 1 v0 ls.length (ls.map (·.v))
 o2 : W.ownsRow B κ.r 1 v2 gs.length (gs.map (·.v))
 n02 : ∀ g,v0.ownBlock = some g → v2.ownBlock ≠ some g
/-- all of a kind: its two rows, what is kept, what is grown -/
structure Kst (κ : Kin) (B K : Nat) (ls gs : List Lst) (W : World) : Prop where
 hd : ∃ v0 v2,Hd κ B K v0 v2 ls gs W
 rv : Rws κ B ls W
 rg : Rws κ B gs W
 av : Apt ls
 ag : Apt gs
 vg : ∀ (i j : Nat) (l g : Lst) (b : Nat),i ≠ j → ls[i]? = some l → gs[j]? = some g → l.v.ownBlock = some b → g.v.ownBlock ≠ some b
 sm : ∀ (i : Nat) (l g : Lst) (b : Nat),ls[i]? = some l → gs[i]? = some g → l.v.ownBlock = some b → g.v.ownBlock = some b → l.n ≤ g.n
/-- the offsets of the kinds of which nothing is kept -/
def Emp (o : Nat) : Prop := 8 ≤ o ∧ o < 38 ∨ 44 ≤ o ∧ o < 47 ∨ 50 ≤ o ∧ o < 53
/-- the book's own cells: the pass, the empty kinds -/
structure Bas (K p : Nat) (W : World) : Prop where
 c0 : W.cell? ⟨K,0,none⟩ = some (.int .i64 0)
 c1 : W.cell? ⟨K,1,none⟩ = some (.int .i64 (p : Int))
 nn : ∀ o,Emp o → W.cell? ⟨K,o,none⟩ = some (.slice none 0 0)
 fz : ∀ o,W.frozen? ⟨K,o,none⟩ = false
/-- what a step on one kind leaves alone -/
structure Fr (κ : Kin) (K : Nat) (W W' : World) : Prop where
 size : W.heap.size ≤ W'.heap.size
 blk : ∀ (g : Nat) (c : Array Value) (e : TypeId),e ≠ κ.e → e ≠ κ.r → g ≠ K → W.heap[g]? = some (.cells c e (0,0)) → W'.heap[g]? = W.heap[g]?
 bk : ∀ o,o ≠ κ.o → o ≠ κ.o + 1 → o ≠ κ.o + 2 → W'.cell? ⟨K,o,none⟩ = W.cell? ⟨K,o,none⟩
 fz : (∀ o,W.frozen? ⟨K,o,none⟩ = false) → ∀ o,W'.frozen? ⟨K,o,none⟩ = false
 old : ∀ (b : Nat) (w0 : World),b ≤ K → Below b w0 W → Below b w0 W'
theorem lt_of_cells {W : World} {g : Nat} {o : Obj} (h : W.heap[g]? = some o) : g < W.heap.size := (Array.getElem?_eq_some_iff.1 h).1
section
variable {κ : Kin} {B K p : Nat} {v0 v2 : Value} {ls gs : List Lst} {W W' : World}
theorem Fr.refl (κ : Kin) (K : Nat) (W : World) : Fr κ K W W := ⟨Nat.le_refl _,fun _ _ _ _ _ _ _ => rfl,fun _ _ _ _ => rfl,fun h => h,fun _ _ _ h => h⟩
theorem Fr.trans {A C D : World} (h : Fr κ K A C) (k : Fr κ K C D) : Fr κ K A D :=
 ⟨Nat.le_trans h.size k.size,fun g c e h1 h2 h3 hg => by have h4 := h.blk g c e h1 h2 h3 hg;exact (k.blk g c e h1 h2 h3 (h4.trans hg)).trans h4,fun o h1 h2 h3 => (k.bk o h1 h2 h3).trans (h.bk o h1 h2 h3),fun h1 => k.fz (h.fz h1),fun b w0 hb h0 => k.old b w0 hb (h.old b w0 hb h0)⟩
theorem Fr.of_below (hb : Below W.heap.size W W') (hK : K < W.heap.size) : Fr κ K W W' :=
 ⟨hb.size,fun g c e _ _ _ hg => hb.block g (lt_of_cells hg),fun o _ _ _ => World.cell?_of_block (a := ⟨K,o,none⟩) (hb.block K hK),fun h o => (World.frozen?_of_block (a := ⟨K,o,none⟩) (hb.block K hK)).trans (h o),fun b w0 hbK h0 => h0.trans (hb.mono (by omega))⟩
theorem Fr.drew (h : Fr κ K W W') : Fr κ K W W'.drew := ⟨h.size,h.blk,h.bk,h.fz,fun b w0 hb h0 => (h.old b w0 hb h0).drew⟩
theorem Bas.fr (h : Bas K p W) (hf : Fr κ K W W') (ho : 2 ≤ κ.o) (he : ∀ o,Emp o → o ≠ κ.o ∧ o ≠ κ.o + 1 ∧ o ≠ κ.o + 2) : Bas K p W' :=
 ⟨(hf.bk 0 (by omega) (by omega) (by omega)).trans h.c0,(hf.bk 1 (by omega) (by omega) (by omega)).trans h.c1,fun o hE => by obtain ⟨h1,h2,h3⟩ := he o hE;exact (hf.bk o h1 h2 h3).trans (h.nn o hE),hf.fz h.fz⟩
theorem Bas.on (h : Bas K p W) (hK : W'.heap[K]? = W.heap[K]?) : Bas K p W' :=
 have hc : ∀ o,W'.cell? ⟨K,o,none⟩ = W.cell? ⟨K,o,none⟩ := fun o => World.cell?_of_block (a := ⟨K,o,none⟩) hK
 ⟨(hc 0).trans h.c0,(hc 1).trans h.c1,fun o h1 => (hc o).trans (h.nn o h1),fun o => (World.frozen?_of_block (a := ⟨K,o,none⟩) hK).trans (h.fz o)⟩
theorem Hd.move (h : Hd κ B K v0 v2 ls gs W) (c0 : W'.cell? ⟨K,κ.o,none⟩ = W.cell? ⟨K,κ.o,none⟩) (c2 : W'.cell? ⟨K,κ.o + 2,none⟩ = W.cell? ⟨K,κ.o + 2,none⟩) (hm : ∀ g cells,B ≤ g → W.heap[g]? = some (.cells cells κ.r (0,0)) → W'.heap[g]? = W.heap[g]?) : Hd κ B K v0 v2 ls gs W' :=
 have mv : ∀ {v : Value} {n : Nat} {xs : List Value},W.ownsRow B κ.r 1 v n xs → W'.ownsRow B κ.r 1 v n xs := fun ho => own_same ho fun k hk => by
  obtain ⟨cells,hc⟩ := own_kind ho hk
  exact hm k cells (ho.lt k hk).1 hc
 ⟨c0.trans h.c0,c2.trans h.c2,mv h.o0,mv h.o2,h.n02⟩
theorem Rws.move (h : Rws κ B ls W) (hm : ∀ g cells,B ≤ g → W.heap[g]? = some (.cells cells κ.e (0,0)) → W'.heap[g]? = W.heap[g]?) : Rws κ B ls W' := fun i l hl =>
 own_same (h i l hl) fun k hk => by
  obtain ⟨cells,hc⟩ := own_kind (h i l hl) hk
  exact hm k cells ((h i l hl).lt k hk).1 hc
theorem Kst.move (h : Kst κ B K ls gs W) (c0 : W'.cell? ⟨K,κ.o,none⟩ = W.cell? ⟨K,κ.o,none⟩) (c2 : W'.cell? ⟨K,κ.o + 2,none⟩ = W.cell? ⟨K,κ.o + 2,none⟩) (hm : ∀ g cells e,B ≤ g → e = κ.e ∨ e = κ.r → W.heap[g]? = some (.cells cells e (0,0)) → W'.heap[g]? = W.heap[g]?) : Kst κ B K ls gs W' := by
 obtain ⟨⟨v0,v2,hd⟩,rv,rg,av,ag,vg,sm⟩ := h
 exact ⟨⟨v0,v2,hd.move c0 c2 fun g cells hB hg => hm g cells κ.r hB (.inr rfl) hg⟩,rv.move fun g cells hB hg => hm g cells κ.e hB (.inl rfl) hg,rg.move fun g cells hB hg => hm g cells κ.e hB (.inl rfl) hg,av,ag,vg,sm⟩
theorem Kst.on (h : Kst κ B K ls gs W) (hb : Below W.heap.size W W') (hK : K < W.heap.size) : Kst κ B K ls gs W' :=
 h.move (World.cell?_of_block (a := ⟨K,κ.o,none⟩) (hb.block K hK)) (World.cell?_of_block (a := ⟨K,κ.o + 2,none⟩) (hb.block K hK)) fun g cells e _ _ hg => hb.block g (lt_of_cells hg)
/-- another kind's step -/
theorem Kst.fr {κ' : Kin} (h : Kst κ B K ls gs W) (hf : Fr κ' K W W') (hKB : K < B) (h1 : κ.e ≠ κ'.e ∧ κ.e ≠ κ'.r ∧ κ.r ≠ κ'.e ∧ κ.r ≠ κ'.r) (h2 : κ.o + 3 ≤ κ'.o ∨ κ'.o + 3 ≤ κ.o) : Kst κ B K ls gs W' :=
 h.move (hf.bk _ (by omega) (by omega) (by omega)) (hf.bk _ (by omega) (by omega) (by omega)) fun g cells e hB he hg => hf.blk g cells e (by rcases he with rfl | rfl;exact h1.1;exact h1.2.2.1) (by rcases he with rfl | rfl;exact h1.2.1;exact h1.2.2.2) (by omega) hg
/-- those ahead of i are marked, of list i its first j -/
def Wn (κ : Kin) (p id : Nat) (ls : List Lst) (i j : Nat) (ks : List Lst) : Prop :=
 ks.length = ls.length ∧ ∀ (q : Nat) (l : Lst),ls[q]? = some l → ∃ d,ks[q]? = some ⟨l.v,l.n,d⟩ ∧ d.length = l.n * κ.s ∧ (q < i → d = marks κ p (id + q + 1) l.n) ∧ (q = i → d.take (j * κ.s) = marks κ p (id + q + 1) j)
theorem Wn.start (h : Rws κ B ls W) (id : Nat) : Wn κ p id ls 0 0 ls := ⟨rfl,fun q l hl => ⟨l.d,hl,(h q l hl).1,fun h => by omega,fun _ => by simp [marks]⟩⟩
theorem Wn.next {id i : Nat} {ks : List Lst} {l : Lst} (hk : Okm κ) (h : Wn κ p id ls i l.n ks) (hl : ls[i]? = some l) : Wn κ p id ls (i + 1) 0 ks := by
 refine ⟨h.1,fun q e he => ?_⟩
 obtain ⟨d,h1,h2,h3,h4⟩ := h.2 q e he
 refine ⟨d,h1,h2,fun hq => ?_,fun _ => by simp [marks]⟩
 by_cases hqi : q < i
 ·exact h3 hqi
 ·obtain rfl : q = i := by omega
  rw [hl] at he
  injection he with he
  subst he
  have h5 := h4 rfl
  rwa [List.take_of_length_le (by omega)] at h5
theorem Wn.get {id i j : Nat} {ks : List Lst} {l : Lst} (h : Wn κ p id ls i j ks) (hl : ls[i]? = some l) : ∃ d,ks[i]? = some ⟨l.v,l.n,d⟩ ∧ d.length = l.n * κ.s := by
 obtain ⟨d,h1,h2,-⟩ := h.2 i l hl
 exact ⟨d,h1,h2⟩
theorem Wn.vs {id i j : Nat} {ks : List Lst} (h : Wn κ p id ls i j ks) : ks.map (·.v) = ls.map (·.v) := by
 apply List.ext_getElem?
 intro q
 rw [List.getElem?_map,List.getElem?_map]
 cases hq : ls[q]? with
 | none =>
  have h1 := h.1
  rw [List.getElem?_eq_none_iff] at hq
  rw [List.getElem?_eq_none (by omega)]
 | some l =>
  obtain ⟨d,h1,-⟩ := h.2 q l hq
  rw [h1];rfl
theorem Wn.step {id i j : Nat} {ks : List Lst} {l : Lst} {d : List Value} (hk : Okm κ) (h : Wn κ p id ls i j ks) (hl : ls[i]? = some l) (hd : ks[i]? = some ⟨l.v,l.n,d⟩) (hj : j < l.n) :
  Wn κ p id ls i (j + 1) (ks.set i ⟨l.v,l.n,putL d (j * κ.s) (κ.mkf p (id + i + 1) j)⟩) := by
 refine ⟨by simpa using h.1,fun q e he => ?_⟩
 obtain ⟨d2,h1,h2,h3,h4⟩ := h.2 q e he
 by_cases hqi : q = i
 ·subst hqi
  rw [hd] at h1
  injection h1 with h1
  injection h1 with _ _ h1
  subst h1
  rw [hl] at he
  injection he with he
  subst he
  have hlt : q < ks.length := (List.getElem?_eq_some_iff.1 hd).1
  have hle : (j + 1) * κ.s ≤ l.n * κ.s := Nat.mul_le_mul_right _ hj
  rw [Nat.succ_mul] at hle
  have hm := hk p (id + q + 1) j
  refine ⟨_,by rw [List.getElem?_set_self hlt],by rw [putL_len _ _ _ (by rw [hm];omega)];exact h2,fun hq => by omega,fun _ => ?_⟩
  rw [Nat.succ_mul,← hm,putL_take _ _ _ (by rw [hm];omega),hm,h4 rfl,marks_succ]
 ·exact ⟨d2,by rw [List.getElem?_set_ne (fun e => hqi e.symm)];exact h1,h2,h3,fun hq => absurd hq hqi⟩
theorem Hd.as (h : Hd κ B K v0 v2 ls gs W) {ks : List Lst} (hv : ks.map (·.v) = ls.map (·.v)) : Hd κ B K v0 v2 ks gs W := by
 have hl : ks.length = ls.length := by have := congrArg List.length hv;simpa using this
 exact ⟨h.c0,h.c2,by rw [hl,hv];exact h.o0,h.o2,h.n02⟩
/-- an element of a kept list is written -/
theorem Kst.put (h : Kst κ B K ls [] W) (hKB : K < B) (her : κ.r ≠ κ.e) {i g n c : Nat} {d : List Value} (hl : ls[i]? = some ⟨.slice (some ⟨g,0,none⟩) n c,n,d⟩) (o : Nat) (x : List Value) (hx : o + x.length ≤ d.length) :
  Kst κ B K (ls.set i ⟨.slice (some ⟨g,0,none⟩) n c,n,putL d o x⟩) [] (putC g W o x) ∧ Fr κ K W (putC g W o x) := by
 obtain ⟨⟨v0,v2,hd⟩,rv,rg,av,ag,vg,sm⟩ := h
 have hgB : B ≤ g := ((rv i _ hl).lt g rfl).1
 have hgK : K ≠ g := by omega
 have hilt : i < ls.length := (List.getElem?_eq_some_iff.1 hl).1
 obtain ⟨gc,hgc⟩ := own_kind (rv i _ hl) (k := g) rfl
 have hv : (ls.set i ⟨.slice (some ⟨g,0,none⟩) n c,n,putL d o x⟩).map (·.v) = ls.map (·.v) := by
  rw [List.map_set]
  apply List.ext_getElem?
  intro q
  rw [List.getElem?_set]
  split
  ·rename_i e
   subst e
   rw [List.getElem?_map,hl]
   simp [hilt]
  ·rfl
 have hc : ∀ o2,(putC g W o x).cell? ⟨K,o2,none⟩ = W.cell? ⟨K,o2,none⟩ := fun o2 => World.cell?_of_block (a := ⟨K,o2,none⟩) (putC_other g K hgK x W o)
 have hne : ∀ k cells e,e ≠ κ.e → W.heap[k]? = some (.cells cells e (0,0)) → k ≠ g := fun k cells e he hk hkg => by
  subst hkg
  rw [hgc] at hk
  injection hk with hk
  injection hk with _ hk
  exact he hk.symm
 have key : ∀ (q : Nat) (m : Lst),(ls.set i ⟨.slice (some ⟨g,0,none⟩) n c,n,putL d o x⟩)[q]? = some m → ∃ m',ls[q]? = some m' ∧ m'.v = m.v ∧ m'.n = m.n := fun q m hq => by
  rw [List.getElem?_set] at hq
  split at hq
  ·rename_i e
   subst e
   injection hq with hq
   subst hq
   exact ⟨_,hl,rfl,rfl⟩
  ·exact ⟨m,hq,rfl,rfl⟩
 refine ⟨⟨⟨v0,v2,(hd.as hv).move (hc _) (hc _) fun k cells _ hk => putC_other g k (hne k cells κ.r her hk) x W o⟩,fun q m hq => ?_,fun q m hq => by simp at hq,fun q q' m m' b hq hq' hb hb' => ?_,fun q q' m m' b hq => by simp at hq,fun q q' m m' b _ _ hq => by simp at hq,fun q m m' b _ hq => by simp at hq⟩,⟨?_,fun k cells e he _ _ hk => putC_other g k (hne k cells e he hk) x W o,fun o2 _ _ _ => hc o2,fun hf o2 => (World.frozen?_of_block (a := ⟨K,o2,none⟩) (putC_other g K hgK x W o)).trans (hf o2),fun b w0 hb h0 => putC_below g (by omega) x W o h0⟩⟩
 ·rw [List.getElem?_set] at hq
  split at hq
  ·rename_i e
   subst e
   injection hq with hq
   subst hq
   exact putC_own x W o d (rv i _ hl) hx
  ·rename_i hqi
   exact own_same (rv q m hq) fun k hk => putC_other g k (fun e => hqi (av i q _ m g hl hq rfl (by rw [hk,e]))) x W o
 ·obtain ⟨n1,h1,e1,-⟩ := key q m hq
  obtain ⟨n2,h2,e2,-⟩ := key q' m' hq'
  exact av q q' n1 n2 b h1 h2 (by rw [e1];exact hb) (by rw [e2];exact hb')
 ·exact Nat.le_of_eq (putC_size g x W o).symm
end
end Go.Proofs.YtpkmekdpmkfcdaaGreatDoor.Kb
namespace Go.Proofs.YtpkmekdpmkfcdaaGreatDoor.Kb
set_option linter.unusedVariables false
set_option linter.unusedSimpArgs false
open Go.RowKit Go.Proofs.YtpkmekdpmkfcdaaGreatDoor.Wd Go.Proofs.YtpkmekdpmkfcdaaGreatDoor.Px Go.Proofs.YtpkmekdpmkfcdaaGreatDoor.By Go.Proofs.YtpkmekdpmkfcdaaGreatDoor.Pf
open Go.Proofs.YtpkmekdpmkfcdaaGreatDoor.Sr (own_same own_kind own_low)
theorem get_snoc {α : Type} {l : List α} {x y : α} {i : Nat} (h : (l ++ [x])[i]? = some y) : l[i]? = some y ∧ i < l.length ∨ i = l.length ∧ y = x := by
 by_cases hi : i < l.length
 ·rw [List.getElem?_append_left hi] at h
  exact .inl ⟨h,hi⟩
 ·rw [List.getElem?_append_right (by omega)] at h
  have h0 := (List.getElem?_eq_some_iff.1 h).1
  simp at h0
  have h1 : i = l.length := by omega
  subst h1
  simp at h
  exact .inr ⟨rfl,h.symm⟩
theorem get_set {α : Type} {l : List α} {x y : α} {i j : Nat} (h : (l.set i x)[j]? = some y) : j ≠ i ∧ l[j]? = some y ∨ j = i ∧ y = x := by
 by_cases hij : j = i
 ·subst hij
  have hlt : j < l.length := by
   have := (List.getElem?_eq_some_iff.1 h).1
   simpa using this
  rw [List.getElem?_set_self hlt] at h
  injection h with h
  exact .inr ⟨rfl,h.symm⟩
 ·rw [List.getElem?_set_ne (fun e => hij e.symm)] at h
  exact .inl ⟨hij,h⟩
theorem blk_ne {W : World} {k g : Nat} {c c' : Array Value} {e e' : TypeId} (hk : W.heap[k]? = some (.cells c e (0,0))) (hg : W.heap[g]? = some (.cells c' e' (0,0))) (he : e ≠ e') : k ≠ g := fun h => by
 subst h
 rw [hk] at hg
 injection hg with hg
 injection hg with _ hg
 exact he hg
theorem own_ne {W : World} {b b' s s' n m : Nat} {e e' : TypeId} {v u : Value} {xs ys : List Value} (h : W.ownsRow b e s v n xs) (h' : W.ownsRow b' e' s' u m ys) (he : e ≠ e') {g : Nat} (hg : v.ownBlock = some g) : u.ownBlock ≠ some g := fun e2 => by
 obtain ⟨c,hc⟩ := own_kind h hg
 obtain ⟨c',hc'⟩ := own_kind h' e2
 exact blk_ne hc hc' he rfl
theorem own_elem {W : World} {b s n g c : Nat} {e : TypeId} {d : List Value} (h : W.ownsRow b e s (.slice (some ⟨g,0,none⟩) n c) n d) {r : Nat} (hr : r < n) {i : Nat} (hi : i < s) : ∃ z,W.cell? ⟨g,r * s + i,none⟩ = some z := by
 have h1 : r * s + i < n * s := by
  have := Nat.mul_le_mul_right s (show r + 1 ≤ n from hr)
  rw [Nat.succ_mul] at this
  omega
 rw [h.cellAt _ h1]
 exact ⟨_,List.getElem?_eq_getElem (by rw [h.1];exact h1)⟩
/-- the grown lists: of those ahead of q one element more -/
def Gr (κ : Kin) (p id : Nat) (ls : List Lst) (q t : Nat) (gs : List Lst) : Prop :=
 gs.length = (if t = 0 then q else ls.length) ∧ ∀ (i : Nat) (g : Lst),gs[i]? = some g → ∃ l,ls[i]? = some l ∧ g.n = l.n + (if i < q then t + 1 else t) ∧ g.d = marks κ p (id + i + 1) g.n
/-- in the midst of a round: list q stands beside, not grown yet -/
def Gm (κ : Kin) (p id : Nat) (ls : List Lst) (q t : Nat) (gs : List Lst) : Prop :=
 q < gs.length ∧ gs.length = (if t = 0 then q + 1 else ls.length) ∧ ∀ (i : Nat) (g : Lst),gs[i]? = some g → ∃ l,ls[i]? = some l ∧ g.n = l.n + (if i < q then t + 1 else t) ∧ g.d = marks κ p (id + i + 1) g.n
/-- each list shows the marks of its number -/
def Mkd (κ : Kin) (p id : Nat) (ls : List Lst) : Prop := ∀ (i : Nat) (l : Lst),ls[i]? = some l → l.d = marks κ p (id + i + 1) l.n
section
variable {κ : Kin} {B K p id : Nat} {v0 v2 : Value} {ls gs : List Lst} {W W' : World}
theorem Gr.start (κ : Kin) (p id : Nat) (ls : List Lst) : Gr κ p id ls 0 0 [] := ⟨rfl,fun i d hd => by simp at hd⟩
theorem Gr.turn {t : Nat} (h : Gr κ p id ls ls.length t gs) : Gr κ p id ls 0 (t + 1) gs := by
 refine ⟨?_,fun i g hg => ?_⟩
 ·rw [h.1,if_neg (show ¬ t + 1 = 0 by omega)]
  split <;> rfl
 ·obtain ⟨l,hl,e1,e2⟩ := h.2 i g hg
  have hi : i < ls.length := (List.getElem?_eq_some_iff.1 hl).1
  rw [if_pos hi] at e1
  exact ⟨l,hl,by rw [if_neg (by omega)];exact e1,e2⟩
theorem Gr.mid {q t : Nat} (h : Gr κ p id ls q t gs) (ht : t ≠ 0) (hq : q < ls.length) : Gm κ p id ls q t gs := by
 have h1 := h.1
 rw [if_neg ht] at h1
 exact ⟨by omega,by rw [if_neg ht];exact h1,h.2⟩
theorem Gr.push {q : Nat} {l : Lst} (h : Gr κ p id ls q 0 gs) (hl : ls[q]? = some l) (hm : l.d = marks κ p (id + q + 1) l.n) : Gm κ p id ls q 0 (gs ++ [l]) := by
 have hlen : gs.length = q := by have := h.1;simpa using this
 refine ⟨by simp [hlen],by simp [hlen],fun i g hg => ?_⟩
 rcases get_snoc hg with ⟨h1,hi⟩ | ⟨rfl,rfl⟩
 ·obtain ⟨e,he,hx⟩ := h.2 i g h1
  exact ⟨e,he,hx⟩
 ·rw [hlen]
  exact ⟨g,hl,by rw [if_neg (by omega)];rfl,hm⟩
theorem Gm.get {q t : Nat} {l : Lst} (h : Gm κ p id ls q t gs) (hl : ls[q]? = some l) : ∃ g,gs[q]? = some g ∧ g.n = l.n + t ∧ g.d = marks κ p (id + q + 1) g.n := by
 obtain ⟨g,hg⟩ : ∃ g,gs[q]? = some g := ⟨_,List.getElem?_eq_getElem h.1⟩
 obtain ⟨l',hl',e1,e2⟩ := h.2.2 q g hg
 rw [hl] at hl'
 injection hl' with hl'
 subst hl'
 rw [if_neg (by omega)] at e1
 exact ⟨g,hg,e1,e2⟩
theorem Gm.step {q t : Nat} {g : Lst} (h : Gm κ p id ls q t gs) (hg : gs[q]? = some g) (v' : Value) : Gr κ p id ls (q + 1) t (gs.set q ⟨v',g.n + 1,g.d ++ κ.mkf p (id + q + 1) g.n⟩) := by
 refine ⟨by rw [List.length_set];exact h.2.1,fun i e he => ?_⟩
 rcases get_set he with ⟨hi,h1⟩ | ⟨rfl,rfl⟩
 ·obtain ⟨l,hl,e1,e2⟩ := h.2.2 i e h1
  refine ⟨l,hl,?_,e2⟩
  rw [e1]
  by_cases hiq : i < q
  ·rw [if_pos hiq,if_pos (by omega)]
  ·rw [if_neg hiq,if_neg (by omega)]
 ·obtain ⟨l,hl,e1,e2⟩ := h.2.2 i g hg
  rw [if_neg (by omega)] at e1
  refine ⟨l,hl,?_,?_⟩
  ·rw [if_pos (by omega)]
   show g.n + 1 = _
   omega
  ·show g.d ++ κ.mkf p (id + i + 1) g.n = marks κ p (id + i + 1) (g.n + 1)
   rw [marks_succ,← e2]
theorem Gr.marked {t : Nat} (h : Gr κ p id ls 0 t gs) : Mkd κ p id gs := fun i g hg => by
 obtain ⟨l,-,-,e⟩ := h.2 i g hg
 exact e
theorem Wn.marked {ks : List Lst} (h : Wn κ p id ls ls.length 0 ks) : Mkd κ p id ks := fun i k hk => by
 have hi : i < ls.length := by rw [← h.1];exact (List.getElem?_eq_some_iff.1 hk).1
 obtain ⟨d,h1,h2,h3,-⟩ := h.2 i ls[i] (List.getElem?_eq_getElem hi)
 rw [hk] at h1
 injection h1 with h1
 subst h1
 exact h3 hi
theorem Wn.ns {i j : Nat} {ks : List Lst} (h : Wn κ p id ls i j ks) {M : Nat} (hM : ∀ l ∈ ls,l.n ≤ M) : ∀ k ∈ ks,k.n ≤ M := fun k hk => by
 obtain ⟨q,hq⟩ := List.mem_iff_getElem?.1 hk
 have hi : q < ls.length := by rw [← h.1];exact (List.getElem?_eq_some_iff.1 hq).1
 obtain ⟨d,h1,-⟩ := h.2 q ls[q] (List.getElem?_eq_getElem hi)
 rw [hq] at h1
 injection h1 with h1
 subst h1
 exact hM ls[q] (List.getElem_mem hi)
theorem Gr.ns {t : Nat} (h : Gr κ p id ls 0 t gs) {M : Nat} (hM : ∀ l ∈ ls,l.n ≤ M) : ∀ g ∈ gs,g.n ≤ M + t := fun g hg => by
 obtain ⟨q,hq⟩ := List.mem_iff_getElem?.1 hg
 obtain ⟨l,hl,e,-⟩ := h.2 q g hq
 rw [if_neg (by omega)] at e
 have := hM l (List.mem_of_getElem? hl)
 omega
theorem kb_ne {b s n : Nat} {v : Value} {xs : List Value} {e : TypeId} (ho : W.ownsRow b e s v n xs) (hK : K < b) : some K ≠ v.ownBlock := fun h => by
 have := (ho.lt K h.symm).1
 omega
theorem kset_cell {o o' : Nat} (h : o ≠ o') (u : Value) : (W.setCell ⟨K,o',none⟩ u).cell? ⟨K,o,none⟩ = W.cell? ⟨K,o,none⟩ := World.cell?_setCell_other W _ _ u (by intro e;injection e with _ e;exact h e.symm)
/-- the next list begins to be grown -/
theorem Kst.push (h : Kst κ B K ls gs W) (hKB : K < B) (hBW : B ≤ W.heap.size) (her : κ.r ≠ κ.e) {l : Lst} {v2 v2' : Value} (hc2 : W.cell? ⟨K,κ.o + 2,none⟩ = some v2) (hl : ls[gs.length]? = some l)
  (ha : ApS 1 v2 gs.length W v2' W') (ho : W'.ownsRow B κ.r 1 v2' (gs.length + 1) (gs.map (·.v) ++ [l.v])) :
  Kst κ B K ls (gs ++ [l]) (W'.setCell ⟨K,κ.o + 2,none⟩ v2') ∧ Fr κ K W (W'.setCell ⟨K,κ.o + 2,none⟩ v2') := by
 obtain ⟨⟨w0,w2,hd⟩,rv,rg,av,ag,vg,sm⟩ := h
 obtain rfl : w2 = v2 := by have := hd.c2.symm.trans hc2;injection this
 have hK : W'.heap[K]? = W.heap[K]? := ha.grown.block K (by omega) (kb_ne hd.o2 hKB)
 have hc : ∀ o,W'.cell? ⟨K,o,none⟩ = W.cell? ⟨K,o,none⟩ := fun o => World.cell?_of_block (a := ⟨K,o,none⟩) hK
 have mv : ∀ {s n : Nat} {e : TypeId} {v : Value} {xs : List Value},W'.ownsRow B e s v n xs → (W'.setCell ⟨K,κ.o + 2,none⟩ v2').ownsRow B e s v n xs := fun ho2 =>
  own_same ho2 fun k hk => Below.heap_setCell W' ⟨K,κ.o + 2,none⟩ v2' k (by have := (ho2.lt k hk).1;show k ≠ K;omega)
 have mr : ∀ {s n : Nat} {v : Value} {xs : List Value},W.ownsRow B κ.e s v n xs → W'.ownsRow B κ.e s v n xs := fun ho2 =>
  ha.keep _ _ _ _ _ _ ho2 fun g hg hg2 => absurd hg (own_ne hd.o2 ho2 her hg2)
 refine ⟨⟨⟨w0,v2',⟨?_,?_,mv (ha.keep _ _ _ _ _ _ hd.o0 fun g hg hg2 => absurd hg2 (hd.n02 g hg)),?_,fun g hg hg2 => ?_⟩⟩,fun i k hk => mv (mr (rv i k hk)),fun i k hk => ?_,av,fun i j k k' b hk hk' hb hb' => ?_,fun i j a g b hij ha1 hg hab hgb => ?_,fun i a g b ha1 hg hab hgb => ?_⟩,⟨?_,fun k c e he hr hk hck => ?_,fun o _ _ h3 => (kset_cell h3 _).trans (hc o),fun hf o => ?_,fun b w0 hb h0 => ?_⟩⟩
 ·rw [kset_cell (by omega),hc];exact hd.c0
 ·exact World.cell?_setCell_same _ _ _ ((hc _).trans hc2)
 ·rw [List.length_append,List.length_singleton,List.map_append,List.map_singleton];exact mv ho
 ·rcases ha.at_ with e | e
  ·exact hd.n02 g hg (e.symm.trans hg2)
  ·rw [e] at hg2
   injection hg2 with hg2
   have := (hd.o0.lt g hg).2
   omega
 ·rcases get_snoc hk with ⟨h1,-⟩ | ⟨rfl,rfl⟩
  ·exact mv (mr (rg i k h1))
  ·exact mv (mr (rv _ k hl))
 ·rcases get_snoc hk with ⟨h1,hi⟩ | ⟨rfl,rfl⟩ <;> rcases get_snoc hk' with ⟨h2,hj⟩ | ⟨rfl,rfl⟩
  ·exact ag i j k k' b h1 h2 hb hb'
  ·exact absurd hb (vg gs.length i k' k b (by omega) hl h1 hb')
  ·exact absurd hb' (vg gs.length j k k' b (by omega) hl h2 hb)
  ·rfl
 ·rcases get_snoc hg with ⟨h1,-⟩ | ⟨rfl,rfl⟩
  ·exact vg i j a g b hij ha1 h1 hab hgb
  ·exact hij (av i gs.length a g b ha1 hl hab hgb)
 ·rcases get_snoc hg with ⟨h1,-⟩ | ⟨rfl,rfl⟩
  ·exact sm i a g b ha1 h1 hab hgb
  ·rw [hl] at ha1
   injection ha1 with ha1
   subst ha1
   exact Nat.le_refl _
 ·simpa using ha.grown.size
 ·refine (Below.heap_setCell W' ⟨K,κ.o + 2,none⟩ v2' k hk).trans (ha.grown.block k (lt_of_cells hck) fun e2 => ?_)
  obtain ⟨c2,hc2'⟩ := own_kind hd.o2 e2.symm
  exact blk_ne hck hc2' hr rfl
 ·rw [World.frozen?_setCell]
  exact (World.frozen?_of_block (a := ⟨K,o,none⟩) hK).trans (hf o)
 ·exact (h0.grown ha.grown (by have := h0.size;omega) (fun j hj => by have := (hd.o2.lt j hj).1;omega)).setCell (p := ⟨K,κ.o + 2,none⟩) hb v2'
/-- a list is grown by one element; the row of what is grown is told so -/
theorem Kst.grow (h : Kst κ B K ls gs W) (hKB : K < B) (hBW : B ≤ W.heap.size) (her : κ.r ≠ κ.e) {q G m c : Nat} {g : Lst} {g' : Value} {x : List Value} (hc2 : W.cell? ⟨K,κ.o + 2,none⟩ = some (.slice (some ⟨G,0,none⟩) m c)) (hg : gs[q]? = some g)
  (ha : ApS κ.s g.v g.n W g' W') (ho : W'.ownsRow B κ.e κ.s g' (g.n + 1) (g.d ++ x)) :
  Kst κ B K ls (gs.set q ⟨g',g.n + 1,g.d ++ x⟩) (W'.setCell ⟨G,q,none⟩ g') ∧ Fr κ K W (W'.setCell ⟨G,q,none⟩ g') := by
 obtain ⟨⟨w0,w2,hd⟩,rv,rg,av,ag,vg,sm⟩ := h
 obtain rfl : w2 = .slice (some ⟨G,0,none⟩) m c := by have := hd.c2.symm.trans hc2;injection this
 have hGB : B ≤ G := (hd.o2.lt G rfl).1
 have hm : gs.length = m := by
  rcases hd.o2.2 with ⟨e,_⟩ | ⟨g2,cap,cur,e,_⟩
  ·cases e
  ·injection e with _ e _;exact e.symm
 have og := rg q g hg
 have hK : W'.heap[K]? = W.heap[K]? := ha.grown.block K (by omega) (kb_ne og hKB)
 have hKG : K ≠ G := by omega
 have hK2 : (W'.setCell ⟨G,q,none⟩ g').heap[K]? = W.heap[K]? := (Below.heap_setCell W' ⟨G,q,none⟩ g' K hKG).trans hK
 have hc : ∀ o,(W'.setCell ⟨G,q,none⟩ g').cell? ⟨K,o,none⟩ = W.cell? ⟨K,o,none⟩ := fun o => World.cell?_of_block (a := ⟨K,o,none⟩) hK2
 -- rows of slices behind the append
 have mr : ∀ {n : Nat} {v : Value} {xs : List Value},W.ownsRow B κ.r 1 v n xs → W'.ownsRow B κ.r 1 v n xs := fun ho2 =>
  ha.keep _ _ _ _ _ _ ho2 fun k hk hk2 => absurd hk2 (own_ne ho2 og her hk)
 have o2' := mr hd.o2
 -- rows of elements behind the store
 have ms : ∀ {b n : Nat} {v : Value} {xs : List Value},W'.ownsRow b κ.e κ.s v n xs → (W'.setCell ⟨G,q,none⟩ g').ownsRow b κ.e κ.s v n xs := fun ho2 =>
  own_same ho2 fun k hk => Below.heap_setCell W' ⟨G,q,none⟩ g' k (fun e => by
   have e' : k = G := e
   subst e'
   exact own_ne o2' ho2 her (g := k) rfl hk)
 have hb' : ∀ b,g'.ownBlock = some b → g.v.ownBlock = some b ∨ W.heap.size ≤ b := fun b hb => by
  rcases ha.at_ with e | e
  ·exact .inl (e.symm.trans hb)
  ·rw [e] at hb
   injection hb with hb
   exact .inr (by omega)
 have o2s := (show W'.ownsRow B κ.r 1 (.slice (some ⟨G,0,none⟩) m c) m (gs.map (·.v)) from by have := o2';rwa [hm] at this).stored q g'
 refine ⟨⟨⟨w0,.slice (some ⟨G,0,none⟩) m c,⟨(hc _).trans hd.c0,(hc _).trans hd.c2,?_,?_,hd.n02⟩⟩,fun i l hl => ms (ha.keep _ _ _ _ _ _ (rv i l hl) fun b hb hb2 => ⟨rfl,?_⟩),fun i k hk => ?_,av,fun i j a b k ha1 hb1 hka hkb => ?_,fun i j l u b hij hl hu hlb hub => ?_,fun i l u b hl hu hlb hub => ?_⟩,⟨?_,fun k c e he hr hk hck => ?_,fun o _ _ _ => hc o,fun hf o => (World.frozen?_of_block (a := ⟨K,o,none⟩) hK2).trans (hf o),fun b w0 hb h0 => ?_⟩⟩
 ·exact own_same (mr hd.o0) fun k hk => Below.heap_setCell W' ⟨G,q,none⟩ g' k (fun e => hd.n02 k hk (by rw [show k = G from e];rfl))
 ·rw [List.length_set,hm,List.map_set];exact o2s.1
 ·by_cases hiq : i = q
  ·subst hiq
   exact sm i l g b hl hg hb hb2
  ·exact absurd hb2 (vg i q l g b hiq hl hg hb)
 ·rcases get_set hk with ⟨hiq,h1⟩ | ⟨rfl,rfl⟩
  ·exact ms (ha.keep _ _ _ _ _ _ (rg i k h1) fun b hb hb2 => absurd (ag i q k g b h1 hg hb hb2) hiq)
  ·exact ms ho
 ·rcases get_set ha1 with ⟨hi,h1⟩ | ⟨rfl,rfl⟩ <;> rcases get_set hb1 with ⟨hj,h2⟩ | ⟨rfl,rfl⟩
  ·exact ag i j a b k h1 h2 hka hkb
  ·rcases hb' k hkb with e | e
   ·exact ag i j a g k h1 hg hka e
   ·have := ((rg i a h1).lt k hka).2;omega
  ·rcases hb' k hka with e | e
   ·exact (ag j i b g k h2 hg hkb e).symm
   ·have := ((rg j b h2).lt k hkb).2;omega
  ·rfl
 ·rcases get_set hu with ⟨-,h1⟩ | ⟨rfl,rfl⟩
  ·exact vg i j l u b hij hl h1 hlb hub
  ·rcases hb' b hub with e | e
   ·exact vg i j l g b hij hl hg hlb e
   ·have := ((rv i l hl).lt b hlb).2;omega
 ·rcases get_set hu with ⟨hiq,h1⟩ | ⟨rfl,rfl⟩
  ·exact sm i l u b hl h1 hlb hub
  ·rcases hb' b hub with e | e
   ·have := sm i l g b hl hg hlb e
    show l.n ≤ g.n + 1
    omega
   ·have := ((rv i l hl).lt b hlb).2;omega
 ·simpa using ha.grown.size
 ·obtain ⟨cG,hcG⟩ := own_kind hd.o2 (k := G) rfl
  refine (Below.heap_setCell W' ⟨G,q,none⟩ g' k (blk_ne hck hcG hr)).trans (ha.grown.block k (lt_of_cells hck) fun e2 => ?_)
  obtain ⟨c2,hc2'⟩ := own_kind og e2.symm
  exact blk_ne hck hc2' he rfl
 ·exact (h0.grown ha.grown (by have := h0.size;omega) (fun j hj => by have := (og.lt j hj).1;omega)).setCell (p := ⟨G,q,none⟩) (by show b ≤ G;omega) g'
/-- the pass is set -/
theorem Kst.pass (h : Kst κ B K ls gs W) (hKB : K < B) (ho : 2 ≤ κ.o) (u : Value) : Kst κ B K ls gs (W.setCell ⟨K,1,none⟩ u) :=
 h.move (kset_cell (by omega) _) (kset_cell (by omega) _) fun g cells e hB _ _ => Below.heap_setCell W ⟨K,1,none⟩ u g (by show g ≠ K;omega)
theorem Bas.pass (h : Bas K p W) : Bas K 1 (W.setCell ⟨K,1,none⟩ (.int .i64 1)) :=
 ⟨(kset_cell (by omega) _).trans h.c0,World.cell?_setCell_same _ _ _ h.c1,fun o hE => (kset_cell (by rcases hE with h | h | h <;> omega) _).trans (h.nn o hE),fun o => by rw [World.frozen?_setCell];exact h.fz o⟩
end
end Go.Proofs.YtpkmekdpmkfcdaaGreatDoor.Kb
namespace Go.Proofs.YtpkmekdpmkfcdaaGreatDoor.Kb
set_option linter.unusedVariables false
set_option linter.unusedSimpArgs false
open Go.RowKit Go.Proofs.YtpkmekdpmkfcdaaGreatDoor.Wd Go.Proofs.YtpkmekdpmkfcdaaGreatDoor.Px Go.Proofs.YtpkmekdpmkfcdaaGreatDoor.By Go.Proofs.YtpkmekdpmkfcdaaGreatDoor.Pf Go.Proofs.YtpkmekdpmkfcdaaGreatDoor.Sc
open Go.Proofs.YtpkmekdpmkfcdaaGreatDoor.Sr (own_same own_kind own_low CRow ORow OpO Opv Und fltC Lim LimO chC opC nl)
def bmn (p id j : Nat) : Nat := if p = 1 then id * 97 + j * 31 else id / 256 * 59 + j * 13 + id % 256 * 3 + 1
def bmk (p id j : Nat) : UInt8 := UInt8.ofNat (bmn p id j)
def lmk (p id j : Nat) : Bool := (id + j + p) % 2 == 0
def cmk (p id j : Nat) : Chg := ⟨(id : Int),((2 * j + p : Nat) : Int),0,[],0,0,0,0⟩
def omk (p id j : Nat) : Opp := { opp0 with kind := (id : Int),a := ((2 * j + p : Nat) : Int) }
def kB : Kin := ⟨5,85,1,2,fun p id j => [cel (bmk p id j)]⟩
def kL : Kin := ⟨4,106,1,5,fun p id j => [.bool (lmk p id j)]⟩
def kC : Kin := ⟨92,22,8,38,fun p id j => (chC (cmk p id j) (.slice none 0 0)).toList⟩
def kF : Kin := ⟨125,105,2,41,fun p id j => [.int .i64 (id : Int),.int .i64 ((2 * j + p : Nat) : Int)]⟩
def kO : Kin := ⟨108,58,14,47,fun p id j => (opC (omk p id j) nl nl nl nl).toList⟩
theorem okB : Okm kB := fun _ _ _ => rfl
theorem okL : Okm kL := fun _ _ _ => rfl
theorem okC : Okm kC := fun _ _ _ => rfl
theorem okF : Okm kF := fun _ _ _ => rfl
theorem okO : Okm kO := fun _ _ _ => rfl
/-- a kind's two rows: kept, as they were -/
structure Hp (κ : Kin) (B K : Nat) (v0 v1 : Value) (vs us : List Value) (W : World) : Prop where
 c0 : W.cell? ⟨K,κ.o,none⟩ = some v0
 c1 : W.cell? ⟨K,κ.o + 1,none⟩ = some v1
 c2 : W.cell? ⟨K,κ.o + 2,none⟩ = some (.slice none 0 0)
 o0 : W.ownsRow B κ.r 1 v0 vs.length vs
 o1 : W.ownsRow B κ.r 1 v1 us.length us
 n01 : ∀ g,v0.ownBlock = some g → v1.ownBlock ≠ some g
/-- what a step that keeps a list of this kind leaves alone -/
structure Fk (κ : Kin) (K : Nat) (W W' : World) : Prop where
 size : W.heap.size ≤ W'.heap.size
 blk : ∀ (g : Nat) (c : Array Value) (e : TypeId),e ≠ κ.r → g ≠ K → W.heap[g]? = some (.cells c e (0,0)) → W'.heap[g]? = W.heap[g]?
 bk : ∀ o,o ≠ κ.o → o ≠ κ.o + 1 → W'.cell? ⟨K,o,none⟩ = W.cell? ⟨K,o,none⟩
 fz : (∀ o,W.frozen? ⟨K,o,none⟩ = false) → ∀ o,W'.frozen? ⟨K,o,none⟩ = false
 old : ∀ (b : Nat) (w0 : World),b ≤ K → Below b w0 W → Below b w0 W'
/-- what any step that keeps lists leaves alone: the lists themselves -/
structure Fu (K : Nat) (W W' : World) : Prop where
 size : W.heap.size ≤ W'.heap.size
 blk : ∀ (g : Nat) (c : Array Value) (e : TypeId),Und e ∨ e = 108 → g ≠ K → W.heap[g]? = some (.cells c e (0,0)) → W'.heap[g]? = W.heap[g]?
 old : ∀ (b : Nat) (w0 : World),b ≤ K → Below b w0 W → Below b w0 W'
section
variable {κ : Kin} {B K : Nat} {v0 v1 : Value} {vs us : List Value} {W W' : World}
theorem Fk.refl (κ : Kin) (K : Nat) (W : World) : Fk κ K W W := ⟨Nat.le_refl _,fun _ _ _ _ _ _ => rfl,fun _ _ _ => rfl,fun h => h,fun _ _ _ h => h⟩
theorem Fk.trans {A C D : World} (h : Fk κ K A C) (k : Fk κ K C D) : Fk κ K A D :=
 ⟨Nat.le_trans h.size k.size,fun g c e h1 h2 hg => by have h4 := h.blk g c e h1 h2 hg;exact (k.blk g c e h1 h2 (h4.trans hg)).trans h4,fun o h1 h2 => (k.bk o h1 h2).trans (h.bk o h1 h2),fun h1 => k.fz (h.fz h1),fun b w0 hb h0 => k.old b w0 hb (h.old b w0 hb h0)⟩
theorem Fk.of_below (hb : Below W.heap.size W W') (hK : K < W.heap.size) : Fk κ K W W' :=
 ⟨hb.size,fun g c e _ _ hg => hb.block g (lt_of_cells hg),fun o _ _ => World.cell?_of_block (a := ⟨K,o,none⟩) (hb.block K hK),fun h o => (World.frozen?_of_block (a := ⟨K,o,none⟩) (hb.block K hK)).trans (h o),fun b w0 hbK h0 => h0.trans (hb.mono (by omega))⟩
theorem Fu.refl (K : Nat) (W : World) : Fu K W W := ⟨Nat.le_refl _,fun _ _ _ _ _ _ => rfl,fun _ _ _ h => h⟩
theorem Fu.trans {A C D : World} (h : Fu K A C) (k : Fu K C D) : Fu K A D :=
 ⟨Nat.le_trans h.size k.size,fun g c e h1 h2 hg => by have h4 := h.blk g c e h1 h2 hg;exact (k.blk g c e h1 h2 (h4.trans hg)).trans h4,fun b w0 hb h0 => k.old b w0 hb (h.old b w0 hb h0)⟩
theorem Fu.of_below (hb : Below W.heap.size W W') (hK : K < W.heap.size) : Fu K W W' :=
 ⟨hb.size,fun g c e _ _ hg => hb.block g (lt_of_cells hg),fun b w0 hbK h0 => h0.trans (hb.mono (by omega))⟩
theorem Fk.fu (h : Fk κ K W W') (hr : ∀ e,Und e ∨ e = 108 → e ≠ κ.r) : Fu K W W' := ⟨h.size,fun g c e he hg hc => h.blk g c e (hr e he) hg hc,h.old⟩
theorem frU_B : ∀ e,Und e ∨ e = 108 → e ≠ kB.r := fun e he => by rcases he with (rfl | rfl | rfl | rfl) | rfl <;> decide
theorem frU_L : ∀ e,Und e ∨ e = 108 → e ≠ kL.r := fun e he => by rcases he with (rfl | rfl | rfl | rfl) | rfl <;> decide
theorem frU_C : ∀ e,Und e ∨ e = 108 → e ≠ kC.r := fun e he => by rcases he with (rfl | rfl | rfl | rfl) | rfl <;> decide
theorem frU_F : ∀ e,Und e ∨ e = 108 → e ≠ kF.r := fun e he => by rcases he with (rfl | rfl | rfl | rfl) | rfl <;> decide
theorem frU_O : ∀ e,Und e ∨ e = 108 → e ≠ kO.r := fun e he => by rcases he with (rfl | rfl | rfl | rfl) | rfl <;> decide
theorem Hp.move (h : Hp κ B K v0 v1 vs us W) (hc : ∀ o,o = κ.o ∨ o = κ.o + 1 ∨ o = κ.o + 2 → W'.cell? ⟨K,o,none⟩ = W.cell? ⟨K,o,none⟩) (hm : ∀ g cells,B ≤ g → W.heap[g]? = some (.cells cells κ.r (0,0)) → W'.heap[g]? = W.heap[g]?) : Hp κ B K v0 v1 vs us W' :=
 have mv : ∀ {v : Value} {n : Nat} {xs : List Value},W.ownsRow B κ.r 1 v n xs → W'.ownsRow B κ.r 1 v n xs := fun ho => own_same ho fun k hk => by
  obtain ⟨cells,hc⟩ := own_kind ho hk
  exact hm k cells (ho.lt k hk).1 hc
 ⟨(hc _ (.inl rfl)).trans h.c0,(hc _ (.inr (.inl rfl))).trans h.c1,(hc _ (.inr (.inr rfl))).trans h.c2,mv h.o0,mv h.o1,h.n01⟩
theorem Hp.on (h : Hp κ B K v0 v1 vs us W) (hb : Below W.heap.size W W') (hK : K < W.heap.size) : Hp κ B K v0 v1 vs us W' :=
 h.move (fun o _ => World.cell?_of_block (a := ⟨K,o,none⟩) (hb.block K hK)) fun g cells _ hg => hb.block g (lt_of_cells hg)
/-- another kind's list was kept -/
theorem Hp.fk {κ' : Kin} (h : Hp κ B K v0 v1 vs us W) (hf : Fk κ' K W W') (hKB : K < B) (hr : κ.r ≠ κ'.r) (h2 : κ.o + 3 ≤ κ'.o ∨ κ'.o + 3 ≤ κ.o) : Hp κ B K v0 v1 vs us W' :=
 h.move (fun o ho => hf.bk o (by omega) (by omega)) fun g cells hB hg => hf.blk g cells κ.r hr (by omega) hg
theorem Bas.fk {p : Nat} (h : Bas K p W) (hf : Fk κ K W W') (ho : 2 ≤ κ.o) (he : ∀ o,Emp o → o ≠ κ.o ∧ o ≠ κ.o + 1 ∧ o ≠ κ.o + 2) : Bas K p W' :=
 ⟨(hf.bk 0 (by omega) (by omega)).trans h.c0,(hf.bk 1 (by omega) (by omega)).trans h.c1,fun o hE => by obtain ⟨h1,h2,h3⟩ := he o hE;exact (hf.bk o h1 h2).trans (h.nn o hE),hf.fz h.fz⟩
theorem kset_below {b s n : Nat} {e : TypeId} {v : Value} {xs : List Value} (h : W.ownsRow b e s v n xs) (hK : K < b) (o : Nat) (u : Value) : (W.setCell ⟨K,o,none⟩ u).ownsRow b e s v n xs :=
 own_same h fun k hk => Below.heap_setCell W ⟨K,o,none⟩ u k (by have := (h.lt k hk).1;show k ≠ K;omega)
/-- a list is kept -/
theorem Hp.app0 (h : Hp κ B K v0 v1 vs us W) (hKB : K < B) (hBW : B ≤ W.heap.size) {v' x : Value} (ha : ApS 1 v0 vs.length W v' W') (ho : W'.ownsRow B κ.r 1 v' (vs.length + 1) (vs ++ [x])) :
  Hp κ B K v' v1 (vs ++ [x]) us (W'.setCell ⟨K,κ.o,none⟩ v') ∧ Fk κ K W (W'.setCell ⟨K,κ.o,none⟩ v') := by
 have hK : W'.heap[K]? = W.heap[K]? := ha.grown.block K (by omega) (kb_ne h.o0 hKB)
 have hc : ∀ o,W'.cell? ⟨K,o,none⟩ = W.cell? ⟨K,o,none⟩ := fun o => World.cell?_of_block (a := ⟨K,o,none⟩) hK
 refine ⟨⟨World.cell?_setCell_same _ _ _ ((hc _).trans h.c0),(kset_cell (by omega) _).trans ((hc _).trans h.c1),(kset_cell (by omega) _).trans ((hc _).trans h.c2),by simpa using kset_below ho hKB κ.o v',kset_below (ha.keep _ _ _ _ _ _ h.o1 fun g hg hg2 => absurd hg (h.n01 g hg2)) hKB κ.o v',fun g hg hg2 => ?_⟩,⟨by simpa using ha.grown.size,fun k c e hr hk hck => ?_,fun o h1 _ => (kset_cell h1 _).trans (hc o),fun hf o => ?_,fun b w0 hb h0 => ?_⟩⟩
 ·rcases ha.at_ with e | e
  ·exact h.n01 g (e.symm.trans hg) hg2
  ·rw [e] at hg
   injection hg with hg
   have := (h.o1.lt g hg2).2
   omega
 ·refine (Below.heap_setCell W' ⟨K,κ.o,none⟩ v' k hk).trans (ha.grown.block k (lt_of_cells hck) fun e2 => ?_)
  obtain ⟨c2,hc2'⟩ := own_kind h.o0 e2.symm
  exact blk_ne hck hc2' hr rfl
 ·rw [World.frozen?_setCell]
  exact (World.frozen?_of_block (a := ⟨K,o,none⟩) hK).trans (hf o)
 ·exact (h0.grown ha.grown (by have := h0.size;omega) (fun j hj => by have := (h.o0.lt j hj).1;omega)).setCell (p := ⟨K,κ.o,none⟩) hb v'
/-- as it was -/
theorem Hp.app1 (h : Hp κ B K v0 v1 vs us W) (hKB : K < B) (hBW : B ≤ W.heap.size) {v' x : Value} (ha : ApS 1 v1 us.length W v' W') (ho : W'.ownsRow B κ.r 1 v' (us.length + 1) (us ++ [x])) :
  Hp κ B K v0 v' vs (us ++ [x]) (W'.setCell ⟨K,κ.o + 1,none⟩ v') ∧ Fk κ K W (W'.setCell ⟨K,κ.o + 1,none⟩ v') := by
 have hK : W'.heap[K]? = W.heap[K]? := ha.grown.block K (by omega) (kb_ne h.o1 hKB)
 have hc : ∀ o,W'.cell? ⟨K,o,none⟩ = W.cell? ⟨K,o,none⟩ := fun o => World.cell?_of_block (a := ⟨K,o,none⟩) hK
 refine ⟨⟨(kset_cell (by omega) _).trans ((hc _).trans h.c0),World.cell?_setCell_same _ _ _ ((hc _).trans h.c1),(kset_cell (by omega) _).trans ((hc _).trans h.c2),kset_below (ha.keep _ _ _ _ _ _ h.o0 fun g hg hg2 => absurd hg2 (h.n01 g hg)) hKB _ v',by simpa using kset_below ho hKB (κ.o + 1) v',fun g hg hg2 => ?_⟩,⟨by simpa using ha.grown.size,fun k c e hr hk hck => ?_,fun o _ h1 => (kset_cell h1 _).trans (hc o),fun hf o => ?_,fun b w0 hb h0 => ?_⟩⟩
 ·rcases ha.at_ with e | e
  ·exact h.n01 g hg (e.symm.trans hg2)
  ·rw [e] at hg2
   injection hg2 with hg2
   have := (h.o0.lt g hg).2
   omega
 ·refine (Below.heap_setCell W' ⟨K,κ.o + 1,none⟩ v' k hk).trans (ha.grown.block k (lt_of_cells hck) fun e2 => ?_)
  obtain ⟨c2,hc2'⟩ := own_kind h.o1 e2.symm
  exact blk_ne hck hc2' hr rfl
 ·rw [World.frozen?_setCell]
  exact (World.frozen?_of_block (a := ⟨K,o,none⟩) hK).trans (hf o)
 ·exact (h0.grown ha.grown (by have := h0.size;omega) (fun j hj => by have := (h.o1.lt j hj).1;omega)).setCell (p := ⟨K,κ.o + 1,none⟩) hb v'
end
structure It (α : Type) where
 v : Value
 u : Value
 x : α
structure St where
 b : List (It (List UInt8))
 l : List (It (List Bool))
 c : List (It (List Chg))
 f : List (It (List (Int × Int)))
 o : List (It (List Opp))
/-- all blocks lie below -/
def Tp (vs : List Value) (H : Nat) : Prop := ∀ v ∈ vs,∀ g,v.ownBlock = some g → g < H
def RowB (B : Nat) (v : Value) (x : List UInt8) (W : World) : Prop := W.ownsRow B 5 1 v x.length (x.map cel) ∧ x.length ≤ 2000000
def RowL (B : Nat) (v : Value) (x : List Bool) (W : World) : Prop := W.ownsRow B 4 1 v x.length (x.map Value.bool) ∧ x.length ≤ 2000000
def RowF (B : Nat) (v : Value) (x : List (Int × Int)) (W : World) : Prop := W.ownsRow B 125 2 v x.length (x.flatMap fltC) ∧ x.length ≤ 2000000
def RowC (B : Nat) (v : Value) (x : List Chg) (W : World) : Prop := (∃ kvs,CRow B v x kvs W) ∧ (∀ c ∈ x,Lim c) ∧ x.length ≤ 2000000
def RowO (B : Nat) (v : Value) (x : List Opp) (W : World) : Prop := (∃ vs,ORow B v x vs W) ∧ (∀ o ∈ x,LimO o) ∧ x.length ≤ 2000000
structure BkA (B K : Nat) (s : St) (W : World) : Prop where
 kb : K < B
 bw : B ≤ W.heap.size
 ba : Bas K 0 W
 hb : ∃ v0 v1,Hp kB B K v0 v1 (s.b.map (·.v)) (s.b.map (·.u)) W
 hl : ∃ v0 v1,Hp kL B K v0 v1 (s.l.map (·.v)) (s.l.map (·.u)) W
 hc : ∃ v0 v1,Hp kC B K v0 v1 (s.c.map (·.v)) (s.c.map (·.u)) W
 hf : ∃ v0 v1,Hp kF B K v0 v1 (s.f.map (·.v)) (s.f.map (·.u)) W
 ho : ∃ v0 v1,Hp kO B K v0 v1 (s.o.map (·.v)) (s.o.map (·.u)) W
 rb : ∀ i ∈ s.b,RowB B i.v i.x W ∧ RowB B i.u i.x W
 rl : ∀ i ∈ s.l,RowL B i.v i.x W ∧ RowL B i.u i.x W
 rc : ∀ i ∈ s.c,RowC B i.v i.x W ∧ RowC B i.u i.x W
 rf : ∀ i ∈ s.f,RowF B i.v i.x W ∧ RowF B i.u i.x W
 ro : ∀ i ∈ s.o,RowO B i.v i.x W ∧ RowO B i.u i.x W
 ab : Sr.Apt (s.b.map (·.v))
 al : Sr.Apt (s.l.map (·.v))
 ac : Sr.Apt (s.c.map (·.v))
 af : Sr.Apt (s.f.map (·.v))
 ao : Sr.Apt (s.o.map (·.v))
section
variable {B K : Nat} {W W' : World}
theorem und_b : Und 5 := .inr (.inl rfl)
theorem und_l : Und 4 := .inr (.inr (.inr rfl))
theorem und_f : Und 125 := .inr (.inr (.inl rfl))
theorem own_fu {s n : Nat} {e : TypeId} {v : Value} {xs : List Value} (h : W.ownsRow B e s v n xs) (hf : Fu K W W') (hK : K < B) (he : Und e ∨ e = 108) : W'.ownsRow B e s v n xs :=
 own_same h fun k hk => by
  obtain ⟨c,hc⟩ := own_kind h hk
  exact hf.blk k c e he (by have := (h.lt k hk).1;omega) hc
theorem RowB.fu {v : Value} {x : List UInt8} (h : RowB B v x W) (hf : Fu K W W') (hK : K < B) : RowB B v x W' := ⟨own_fu h.1 hf hK (.inl und_b),h.2⟩
theorem RowL.fu {v : Value} {x : List Bool} (h : RowL B v x W) (hf : Fu K W W') (hK : K < B) : RowL B v x W' := ⟨own_fu h.1 hf hK (.inl und_l),h.2⟩
theorem RowF.fu {v : Value} {x : List (Int × Int)} (h : RowF B v x W) (hf : Fu K W W') (hK : K < B) : RowF B v x W' := ⟨own_fu h.1 hf hK (.inl und_f),h.2⟩
theorem CRow.fu {v : Value} {x : List Chg} {kvs : List Value} (h : CRow B v x kvs W) (hf : Fu K W W') (hK : K < B) : CRow B v x kvs W' :=
 ⟨h.len,own_fu h.row hf hK (.inl (.inl rfl)),fun i c kv hc hk => own_fu (h.own i c kv hc hk) hf hK (.inl und_b),h.ap⟩
theorem OpO.fu {o : Opp} {dv cv fv bv : Value} {kvs : List Value} (h : OpO B o dv cv fv bv kvs W) (hf : Fu K W W') (hK : K < B) : OpO B o dv cv fv bv kvs W' :=
 ⟨own_fu h.data hf hK (.inl und_b),CRow.fu h.chs hf hK,own_fu h.fls hf hK (.inl und_f),own_fu h.keep hf hK (.inl und_l),h.ap⟩
theorem ORow.fu {v : Value} {x : List Opp} {vs : List Opv} (h : ORow B v x vs W) (hf : Fu K W W') (hK : K < B) : ORow B v x vs W' :=
 ⟨h.len,own_fu h.row hf hK (.inr rfl),fun i o y ho hy => by
  obtain ⟨h1,h2,h3⟩ := h.own i o y ho hy
  exact ⟨OpO.fu h1 hf (by omega),h2,Nat.le_trans h3 hf.size⟩,h.low,h.sep⟩
theorem RowC.fu {v : Value} {x : List Chg} (h : RowC B v x W) (hf : Fu K W W') (hK : K < B) : RowC B v x W' := by
 obtain ⟨⟨kvs,h1⟩,h2⟩ := h;exact ⟨⟨kvs,CRow.fu h1 hf hK⟩,h2⟩
theorem RowO.fu {v : Value} {x : List Opp} (h : RowO B v x W) (hf : Fu K W W') (hK : K < B) : RowO B v x W' := by
 obtain ⟨⟨vs,h1⟩,h2⟩ := h;exact ⟨⟨vs,ORow.fu h1 hf hK⟩,h2⟩
theorem BkA.kw {s : St} (h : BkA B K s W) : K < W.heap.size := Nat.lt_of_lt_of_le h.kb h.bw
theorem BkA.on {s : St} (h : BkA B K s W) (hb : Below W.heap.size W W') : BkA B K s W' := by
 have hfu := Fu.of_below hb h.kw
 obtain ⟨a0,a1,ha⟩ := h.hb
 obtain ⟨b0,b1,hb2⟩ := h.hl
 obtain ⟨c0,c1,hc⟩ := h.hc
 obtain ⟨d0,d1,hd⟩ := h.hf
 obtain ⟨e0,e1,he⟩ := h.ho
 exact ⟨h.kb,Nat.le_trans h.bw hb.size,h.ba.on (hb.block K h.kw),⟨_,_,ha.on hb h.kw⟩,⟨_,_,hb2.on hb h.kw⟩,⟨_,_,hc.on hb h.kw⟩,⟨_,_,hd.on hb h.kw⟩,⟨_,_,he.on hb h.kw⟩,
  fun i hi => ⟨(h.rb i hi).1.fu hfu h.kb,(h.rb i hi).2.fu hfu h.kb⟩,fun i hi => ⟨(h.rl i hi).1.fu hfu h.kb,(h.rl i hi).2.fu hfu h.kb⟩,fun i hi => ⟨(h.rc i hi).1.fu hfu h.kb,(h.rc i hi).2.fu hfu h.kb⟩,fun i hi => ⟨(h.rf i hi).1.fu hfu h.kb,(h.rf i hi).2.fu hfu h.kb⟩,fun i hi => ⟨(h.ro i hi).1.fu hfu h.kb,(h.ro i hi).2.fu hfu h.kb⟩,h.ab,h.al,h.ac,h.af,h.ao⟩
theorem emp_B : ∀ o,Emp o → o ≠ kB.o ∧ o ≠ kB.o + 1 ∧ o ≠ kB.o + 2 := fun o h => by show o ≠ 2 ∧ o ≠ 3 ∧ o ≠ 4;rcases h with h | h | h <;> omega
theorem emp_L : ∀ o,Emp o → o ≠ kL.o ∧ o ≠ kL.o + 1 ∧ o ≠ kL.o + 2 := fun o h => by show o ≠ 5 ∧ o ≠ 6 ∧ o ≠ 7;rcases h with h | h | h <;> omega
theorem emp_C : ∀ o,Emp o → o ≠ kC.o ∧ o ≠ kC.o + 1 ∧ o ≠ kC.o + 2 := fun o h => by show o ≠ 38 ∧ o ≠ 39 ∧ o ≠ 40;rcases h with h | h | h <;> omega
theorem emp_F : ∀ o,Emp o → o ≠ kF.o ∧ o ≠ kF.o + 1 ∧ o ≠ kF.o + 2 := fun o h => by show o ≠ 41 ∧ o ≠ 42 ∧ o ≠ 43;rcases h with h | h | h <;> omega
theorem emp_O : ∀ o,Emp o → o ≠ kO.o ∧ o ≠ kO.o + 1 ∧ o ≠ kO.o + 2 := fun o h => by show o ≠ 47 ∧ o ≠ 48 ∧ o ≠ 49;rcases h with h | h | h <;> omega
theorem mem_snoc {α : Type} {l : List α} {x y : α} (h : y ∈ l ++ [x]) : y ∈ l ∨ y = x := by
 rcases List.mem_append.1 h with h | h
 ·exact .inl h
 ·exact .inr (List.mem_singleton.1 h)
theorem apt_snoc {vs : List Value} (h : Sr.Apt vs) {v : Value} {H : Nat} (ht : Tp vs H) (hv : ∀ g,v.ownBlock = some g → H ≤ g) : Sr.Apt (vs ++ [v]) := h.snoc fun i u g hu hg e => by
 have := ht u (List.mem_of_getElem? hu) g hg
 have := hv g e
 omega
theorem Tp.mono {vs : List Value} {H H' : Nat} (h : Tp vs H) (hH : H ≤ H') : Tp vs H' := fun v hv g hg => Nat.lt_of_lt_of_le (h v hv g hg) hH
theorem Tp.snoc {vs : List Value} {H : Nat} (h : Tp vs H) {v : Value} (hv : ∀ g,v.ownBlock = some g → g < H) : Tp (vs ++ [v]) H := fun u hu g hg => by
 rcases mem_snoc hu with hu | rfl
 ·exact h u hu g hg
 ·exact hv g hg
theorem BkA.addB {s : St} (h : BkA B K s W) {v u : Value} {x : List UInt8} (hf : Fk kB K W W') (hp : ∃ v0 v1,Hp kB B K v0 v1 (s.b.map (·.v) ++ [v]) (s.b.map (·.u) ++ [u]) W') (hv : RowB B v x W') (hu : RowB B u x W') (ha : Sr.Apt (s.b.map (·.v) ++ [v])) : BkA B K { s with b := s.b ++ [⟨v,u,x⟩] } W' := by
 have hfu := hf.fu frU_B
 obtain ⟨b0,b1,hb2⟩ := h.hl
 obtain ⟨c0,c1,hc⟩ := h.hc
 obtain ⟨d0,d1,hd⟩ := h.hf
 obtain ⟨e0,e1,he⟩ := h.ho
 exact ⟨h.kb,Nat.le_trans h.bw hf.size,h.ba.fk hf (by decide) emp_B,by simpa using hp,⟨_,_,hb2.fk hf h.kb (by decide) (by decide)⟩,⟨_,_,hc.fk hf h.kb (by decide) (by decide)⟩,⟨_,_,hd.fk hf h.kb (by decide) (by decide)⟩,⟨_,_,he.fk hf h.kb (by decide) (by decide)⟩,
  fun i hi => by
   rcases mem_snoc hi with hi | rfl
   ·exact ⟨(h.rb i hi).1.fu hfu h.kb,(h.rb i hi).2.fu hfu h.kb⟩
   ·exact ⟨hv,hu⟩,fun i hi => ⟨(h.rl i hi).1.fu hfu h.kb,(h.rl i hi).2.fu hfu h.kb⟩,fun i hi => ⟨(h.rc i hi).1.fu hfu h.kb,(h.rc i hi).2.fu hfu h.kb⟩,fun i hi => ⟨(h.rf i hi).1.fu hfu h.kb,(h.rf i hi).2.fu hfu h.kb⟩,fun i hi => ⟨(h.ro i hi).1.fu hfu h.kb,(h.ro i hi).2.fu hfu h.kb⟩,by simpa using ha,h.al,h.ac,h.af,h.ao⟩
theorem BkA.addL {s : St} (h : BkA B K s W) {v u : Value} {x : List Bool} (hf : Fk kL K W W') (hp : ∃ v0 v1,Hp kL B K v0 v1 (s.l.map (·.v) ++ [v]) (s.l.map (·.u) ++ [u]) W') (hv : RowL B v x W') (hu : RowL B u x W') (ha : Sr.Apt (s.l.map (·.v) ++ [v])) : BkA B K { s with l := s.l ++ [⟨v,u,x⟩] } W' := by
 have hfu := hf.fu frU_L
 obtain ⟨b0,b1,hb2⟩ := h.hb
 obtain ⟨c0,c1,hc⟩ := h.hc
 obtain ⟨d0,d1,hd⟩ := h.hf
 obtain ⟨e0,e1,he⟩ := h.ho
 exact ⟨h.kb,Nat.le_trans h.bw hf.size,h.ba.fk hf (by decide) emp_L,⟨_,_,hb2.fk hf h.kb (by decide) (by decide)⟩,by simpa using hp,⟨_,_,hc.fk hf h.kb (by decide) (by decide)⟩,⟨_,_,hd.fk hf h.kb (by decide) (by decide)⟩,⟨_,_,he.fk hf h.kb (by decide) (by decide)⟩,
  fun i hi => ⟨(h.rb i hi).1.fu hfu h.kb,(h.rb i hi).2.fu hfu h.kb⟩,fun i hi => by
   rcases mem_snoc hi with hi | rfl
   ·exact ⟨(h.rl i hi).1.fu hfu h.kb,(h.rl i hi).2.fu hfu h.kb⟩
   ·exact ⟨hv,hu⟩,fun i hi => ⟨(h.rc i hi).1.fu hfu h.kb,(h.rc i hi).2.fu hfu h.kb⟩,fun i hi => ⟨(h.rf i hi).1.fu hfu h.kb,(h.rf i hi).2.fu hfu h.kb⟩,fun i hi => ⟨(h.ro i hi).1.fu hfu h.kb,(h.ro i hi).2.fu hfu h.kb⟩,h.ab,by simpa using ha,h.ac,h.af,h.ao⟩
theorem BkA.addC {s : St} (h : BkA B K s W) {v u : Value} {x : List Chg} (hf : Fk kC K W W') (hp : ∃ v0 v1,Hp kC B K v0 v1 (s.c.map (·.v) ++ [v]) (s.c.map (·.u) ++ [u]) W') (hv : RowC B v x W') (hu : RowC B u x W') (ha : Sr.Apt (s.c.map (·.v) ++ [v])) : BkA B K { s with c := s.c ++ [⟨v,u,x⟩] } W' := by
 have hfu := hf.fu frU_C
 obtain ⟨b0,b1,hb2⟩ := h.hb
 obtain ⟨c0,c1,hc⟩ := h.hl
 obtain ⟨d0,d1,hd⟩ := h.hf
 obtain ⟨e0,e1,he⟩ := h.ho
 exact ⟨h.kb,Nat.le_trans h.bw hf.size,h.ba.fk hf (by decide) emp_C,⟨_,_,hb2.fk hf h.kb (by decide) (by decide)⟩,⟨_,_,hc.fk hf h.kb (by decide) (by decide)⟩,by simpa using hp,⟨_,_,hd.fk hf h.kb (by decide) (by decide)⟩,⟨_,_,he.fk hf h.kb (by decide) (by decide)⟩,
  fun i hi => ⟨(h.rb i hi).1.fu hfu h.kb,(h.rb i hi).2.fu hfu h.kb⟩,fun i hi => ⟨(h.rl i hi).1.fu hfu h.kb,(h.rl i hi).2.fu hfu h.kb⟩,fun i hi => by
   rcases mem_snoc hi with hi | rfl
   ·exact ⟨(h.rc i hi).1.fu hfu h.kb,(h.rc i hi).2.fu hfu h.kb⟩
   ·exact ⟨hv,hu⟩,fun i hi => ⟨(h.rf i hi).1.fu hfu h.kb,(h.rf i hi).2.fu hfu h.kb⟩,fun i hi => ⟨(h.ro i hi).1.fu hfu h.kb,(h.ro i hi).2.fu hfu h.kb⟩,h.ab,h.al,by simpa using ha,h.af,h.ao⟩
theorem BkA.addF {s : St} (h : BkA B K s W) {v u : Value} {x : List (Int × Int)} (hf : Fk kF K W W') (hp : ∃ v0 v1,Hp kF B K v0 v1 (s.f.map (·.v) ++ [v]) (s.f.map (·.u) ++ [u]) W') (hv : RowF B v x W') (hu : RowF B u x W') (ha : Sr.Apt (s.f.map (·.v) ++ [v])) : BkA B K { s with f := s.f ++ [⟨v,u,x⟩] } W' := by
 have hfu := hf.fu frU_F
 obtain ⟨b0,b1,hb2⟩ := h.hb
 obtain ⟨c0,c1,hc⟩ := h.hl
 obtain ⟨d0,d1,hd⟩ := h.hc
 obtain ⟨e0,e1,he⟩ := h.ho
 exact ⟨h.kb,Nat.le_trans h.bw hf.size,h.ba.fk hf (by decide) emp_F,⟨_,_,hb2.fk hf h.kb (by decide) (by decide)⟩,⟨_,_,hc.fk hf h.kb (by decide) (by decide)⟩,⟨_,_,hd.fk hf h.kb (by decide) (by decide)⟩,by simpa using hp,⟨_,_,he.fk hf h.kb (by decide) (by decide)⟩,
  fun i hi => ⟨(h.rb i hi).1.fu hfu h.kb,(h.rb i hi).2.fu hfu h.kb⟩,fun i hi => ⟨(h.rl i hi).1.fu hfu h.kb,(h.rl i hi).2.fu hfu h.kb⟩,fun i hi => ⟨(h.rc i hi).1.fu hfu h.kb,(h.rc i hi).2.fu hfu h.kb⟩,fun i hi => by
   rcases mem_snoc hi with hi | rfl
   ·exact ⟨(h.rf i hi).1.fu hfu h.kb,(h.rf i hi).2.fu hfu h.kb⟩
   ·exact ⟨hv,hu⟩,fun i hi => ⟨(h.ro i hi).1.fu hfu h.kb,(h.ro i hi).2.fu hfu h.kb⟩,h.ab,h.al,h.ac,by simpa using ha,h.ao⟩
theorem BkA.addO {s : St} (h : BkA B K s W) {v u : Value} {x : List Opp} (hf : Fk kO K W W') (hp : ∃ v0 v1,Hp kO B K v0 v1 (s.o.map (·.v) ++ [v]) (s.o.map (·.u) ++ [u]) W') (hv : RowO B v x W') (hu : RowO B u x W') (ha : Sr.Apt (s.o.map (·.v) ++ [v])) : BkA B K { s with o := s.o ++ [⟨v,u,x⟩] } W' := by
 have hfu := hf.fu frU_O
 obtain ⟨b0,b1,hb2⟩ := h.hb
 obtain ⟨c0,c1,hc⟩ := h.hl
 obtain ⟨d0,d1,hd⟩ := h.hc
 obtain ⟨e0,e1,he⟩ := h.hf
 exact ⟨h.kb,Nat.le_trans h.bw hf.size,h.ba.fk hf (by decide) emp_O,⟨_,_,hb2.fk hf h.kb (by decide) (by decide)⟩,⟨_,_,hc.fk hf h.kb (by decide) (by decide)⟩,⟨_,_,hd.fk hf h.kb (by decide) (by decide)⟩,⟨_,_,he.fk hf h.kb (by decide) (by decide)⟩,by simpa using hp,
  fun i hi => ⟨(h.rb i hi).1.fu hfu h.kb,(h.rb i hi).2.fu hfu h.kb⟩,fun i hi => ⟨(h.rl i hi).1.fu hfu h.kb,(h.rl i hi).2.fu hfu h.kb⟩,fun i hi => ⟨(h.rc i hi).1.fu hfu h.kb,(h.rc i hi).2.fu hfu h.kb⟩,fun i hi => ⟨(h.rf i hi).1.fu hfu h.kb,(h.rf i hi).2.fu hfu h.kb⟩,fun i hi => by
   rcases mem_snoc hi with hi | rfl
   ·exact ⟨(h.ro i hi).1.fu hfu h.kb,(h.ro i hi).2.fu hfu h.kb⟩
   ·exact ⟨hv,hu⟩,h.ab,h.al,h.ac,h.af,by simpa using ha⟩
end
end Go.Proofs.YtpkmekdpmkfcdaaGreatDoor.Kb
namespace Go.Proofs.YtpkmekdpmkfcdaaGreatDoor.Kb
set_option linter.unusedVariables false
set_option linter.unusedSimpArgs false
open Go.RowKit Go.Proofs.YtpkmekdpmkfcdaaGreatDoor.Wd Go.Proofs.YtpkmekdpmkfcdaaGreatDoor.Px Go.Proofs.YtpkmekdpmkfcdaaGreatDoor.By Go.Proofs.YtpkmekdpmkfcdaaGreatDoor.Pf Go.Proofs.YtpkmekdpmkfcdaaGreatDoor.Sc
open Go.Proofs.YtpkmekdpmkfcdaaGreatDoor.Sr (own_same own_kind own_low CRow ORow OpO Opv Und fltC Lim LimO chC opC nl)
structure Ks where
 b : List Lst
 l : List Lst
 c : List Lst
 f : List Lst
 o : List Lst
def ks0 : Ks := ⟨[],[],[],[],[]⟩
structure Bok (B K p : Nat) (L G : Ks) (W : World) : Prop where
 kb : K < B
 bw : B ≤ W.heap.size
 ba : Bas K p W
 hb : Kst kB B K L.b G.b W
 hl : Kst kL B K L.l G.l W
 hc : Kst kC B K L.c G.c W
 hf : Kst kF B K L.f G.f W
 ho : Kst kO B K L.o G.o W
/-- old things are left alone -/
def FrO (K : Nat) (W W' : World) : Prop := W.heap.size ≤ W'.heap.size ∧ ∀ (b : Nat) (w0 : World),b ≤ K → Below b w0 W → Below b w0 W'
section
variable {B K p : Nat} {L G : Ks} {W W' : World}
theorem FrO.refl (K : Nat) (W : World) : FrO K W W := ⟨Nat.le_refl _,fun _ _ _ h => h⟩
theorem FrO.trans {A C D : World} (h : FrO K A C) (k : FrO K C D) : FrO K A D := ⟨Nat.le_trans h.1 k.1,fun b w0 hb h0 => k.2 b w0 hb (h.2 b w0 hb h0)⟩
theorem FrO.of_below (hb : Below W.heap.size W W') (hK : K < W.heap.size) : FrO K W W' := ⟨hb.size,fun b w0 hbK h0 => h0.trans (hb.mono (by omega))⟩
theorem Fr.fro {κ : Kin} (h : Fr κ K W W') : FrO K W W' := ⟨h.size,h.old⟩
theorem FrO.kset (K : Nat) (W : World) (o : Nat) (u : Value) : FrO K W (W.setCell ⟨K,o,none⟩ u) := ⟨by simp,fun b w0 hb h0 => h0.setCell (p := ⟨K,o,none⟩) hb u⟩
theorem Bok.kw (h : Bok B K p L G W) : K < W.heap.size := Nat.lt_of_lt_of_le h.kb h.bw
theorem Bok.on (h : Bok B K p L G W) (hb : Below W.heap.size W W') : Bok B K p L G W' :=
 ⟨h.kb,Nat.le_trans h.bw hb.size,h.ba.on (hb.block K h.kw),h.hb.on hb h.kw,h.hl.on hb h.kw,h.hc.on hb h.kw,h.hf.on hb h.kw,h.ho.on hb h.kw⟩
theorem Bok.setB (h : Bok B K p L G W) {ls gs : List Lst} (hk : Kst kB B K ls gs W') (hf : Fr kB K W W') : Bok B K p { L with b := ls } { G with b := gs } W' :=
 ⟨h.kb,Nat.le_trans h.bw hf.size,h.ba.fr hf (by decide) emp_B,hk,h.hl.fr hf h.kb (by decide) (by decide),h.hc.fr hf h.kb (by decide) (by decide),h.hf.fr hf h.kb (by decide) (by decide),h.ho.fr hf h.kb (by decide) (by decide)⟩
theorem Bok.setL (h : Bok B K p L G W) {ls gs : List Lst} (hk : Kst kL B K ls gs W') (hf : Fr kL K W W') : Bok B K p { L with l := ls } { G with l := gs } W' :=
 ⟨h.kb,Nat.le_trans h.bw hf.size,h.ba.fr hf (by decide) emp_L,h.hb.fr hf h.kb (by decide) (by decide),hk,h.hc.fr hf h.kb (by decide) (by decide),h.hf.fr hf h.kb (by decide) (by decide),h.ho.fr hf h.kb (by decide) (by decide)⟩
theorem Bok.setC (h : Bok B K p L G W) {ls gs : List Lst} (hk : Kst kC B K ls gs W') (hf : Fr kC K W W') : Bok B K p { L with c := ls } { G with c := gs } W' :=
 ⟨h.kb,Nat.le_trans h.bw hf.size,h.ba.fr hf (by decide) emp_C,h.hb.fr hf h.kb (by decide) (by decide),h.hl.fr hf h.kb (by decide) (by decide),hk,h.hf.fr hf h.kb (by decide) (by decide),h.ho.fr hf h.kb (by decide) (by decide)⟩
theorem Bok.setF (h : Bok B K p L G W) {ls gs : List Lst} (hk : Kst kF B K ls gs W') (hf : Fr kF K W W') : Bok B K p { L with f := ls } { G with f := gs } W' :=
 ⟨h.kb,Nat.le_trans h.bw hf.size,h.ba.fr hf (by decide) emp_F,h.hb.fr hf h.kb (by decide) (by decide),h.hl.fr hf h.kb (by decide) (by decide),h.hc.fr hf h.kb (by decide) (by decide),hk,h.ho.fr hf h.kb (by decide) (by decide)⟩
theorem Bok.setO (h : Bok B K p L G W) {ls gs : List Lst} (hk : Kst kO B K ls gs W') (hf : Fr kO K W W') : Bok B K p { L with o := ls } { G with o := gs } W' :=
 ⟨h.kb,Nat.le_trans h.bw hf.size,h.ba.fr hf (by decide) emp_O,h.hb.fr hf h.kb (by decide) (by decide),h.hl.fr hf h.kb (by decide) (by decide),h.hc.fr hf h.kb (by decide) (by decide),h.hf.fr hf h.kb (by decide) (by decide),hk⟩
theorem Bok.pass (h : Bok B K p L G W) : Bok B K 1 L G (W.setCell ⟨K,1,none⟩ (.int .i64 1)) :=
 ⟨h.kb,by simpa using h.bw,h.ba.pass,h.hb.pass h.kb (by decide) _,h.hl.pass h.kb (by decide) _,h.hc.pass h.kb (by decide) _,h.hf.pass h.kb (by decide) _,h.ho.pass h.kb (by decide) _⟩
theorem lists_of {M : Nat} {e : TypeId} {s : Nat} : ∀ (vs : List Value),(∀ v ∈ vs,∃ n d,n ≤ M ∧ W.ownsRow B e s v n d) → ∃ ls : List Lst,ls.map (·.v) = vs ∧ (∀ l ∈ ls,l.n ≤ M) ∧ ∀ l ∈ ls,W.ownsRow B e s l.v l.n l.d
 | [],_ => ⟨[],rfl,fun l hl => by simp at hl,fun l hl => by simp at hl⟩
 | v :: r,h => by
  obtain ⟨n,d,h1,h2⟩ := h v (by simp)
  obtain ⟨ls,e1,e2,e3⟩ := lists_of r fun u hu => h u (by simp [hu])
  refine ⟨⟨v,n,d⟩ :: ls,by simp [e1],fun l hl => ?_,fun l hl => ?_⟩
  ·rcases List.mem_cons.1 hl with rfl | hl
   ·exact h1
   ·exact e2 l hl
  ·rcases List.mem_cons.1 hl with rfl | hl
   ·exact h2
   ·exact e3 l hl
theorem kst_of {κ : Kin} {v0 v1 : Value} {vs us : List Value} {M : Nat} (h : Hp κ B K v0 v1 vs us W) (ha : Sr.Apt vs) (hr : ∀ v ∈ vs,∃ n d,n ≤ M ∧ W.ownsRow B κ.e κ.s v n d) : ∃ ls : List Lst,ls.length = vs.length ∧ (∀ l ∈ ls,l.n ≤ M) ∧ Kst κ B K ls [] W := by
 obtain ⟨ls,e1,e2,e3⟩ := lists_of vs hr
 have hl : ls.length = vs.length := by rw [← e1,List.length_map]
 refine ⟨ls,hl,e2,⟨⟨v0,_,⟨h.c0,h.c2,by rw [hl,e1];exact h.o0,World.ownsRow_nil _ _ _ _,fun g _ hg => by simp [Value.ownBlock] at hg⟩⟩,fun i l hi => e3 l (List.mem_of_getElem? hi),fun i l hi => by simp at hi,fun i j l l' g hi hj hg hg' => ha i j l.v l'.v g (by rw [← e1,List.getElem?_map,hi];rfl) (by rw [← e1,List.getElem?_map,hj];rfl) hg hg',fun i j l l' g hi => by simp at hi,fun i j l l' g _ _ hj => by simp at hj,fun i l l' g _ hj => by simp at hj⟩⟩
theorem BkA.bok {s : St} (h : BkA B K s W) : ∃ L : Ks,Bok B K 0 L ks0 W ∧ (L.b.length = s.b.length ∧ L.l.length = s.l.length ∧ L.c.length = s.c.length ∧ L.f.length = s.f.length ∧ L.o.length = s.o.length) ∧ (∀ l ∈ L.b,l.n ≤ 2000000) ∧ (∀ l ∈ L.l,l.n ≤ 2000000) ∧ (∀ l ∈ L.c,l.n ≤ 2000000) ∧ (∀ l ∈ L.f,l.n ≤ 2000000) ∧ (∀ l ∈ L.o,l.n ≤ 2000000) := by
 obtain ⟨b0,b1,hb⟩ := h.hb
 obtain ⟨l0,l1,hl⟩ := h.hl
 obtain ⟨c0,c1,hc⟩ := h.hc
 obtain ⟨f0,f1,hf⟩ := h.hf
 obtain ⟨o0,o1,ho⟩ := h.ho
 obtain ⟨Lb,b2,b3,b4⟩ := kst_of (M := 2000000) hb h.ab fun v hv => by
  obtain ⟨i,hi,rfl⟩ := List.mem_map.1 hv
  exact ⟨_,_,(h.rb i hi).1.2,(h.rb i hi).1.1⟩
 obtain ⟨Ll,l2,l3,l4⟩ := kst_of (M := 2000000) hl h.al fun v hv => by
  obtain ⟨i,hi,rfl⟩ := List.mem_map.1 hv
  exact ⟨_,_,(h.rl i hi).1.2,(h.rl i hi).1.1⟩
 obtain ⟨Lc,c2,c3,c4⟩ := kst_of (M := 2000000) hc h.ac fun v hv => by
  obtain ⟨i,hi,rfl⟩ := List.mem_map.1 hv
  obtain ⟨⟨kvs,h1⟩,-,h2⟩ := (h.rc i hi).1
  exact ⟨_,_,h2,h1.row⟩
 obtain ⟨Lf,f2,f3,f4⟩ := kst_of (M := 2000000) hf h.af fun v hv => by
  obtain ⟨i,hi,rfl⟩ := List.mem_map.1 hv
  exact ⟨_,_,(h.rf i hi).1.2,(h.rf i hi).1.1⟩
 obtain ⟨Lo,o2,o3,o4⟩ := kst_of (M := 2000000) ho h.ao fun v hv => by
  obtain ⟨i,hi,rfl⟩ := List.mem_map.1 hv
  obtain ⟨⟨vs,h1⟩,-,h2⟩ := (h.ro i hi).1
  exact ⟨_,_,h2,h1.row⟩
 exact ⟨⟨Lb,Ll,Lc,Lf,Lo⟩,⟨h.kb,h.bw,h.ba,b4,l4,c4,f4,o4⟩,⟨by simpa using b2,by simpa using l2,by simpa using c2,by simpa using f2,by simpa using o2⟩,b3,l3,c3,f3,o3⟩
end
end Go.Proofs.YtpkmekdpmkfcdaaGreatDoor.Kb
namespace Go.Proofs.YtpkmekdpmkfcdaaGreatDoor.Kb
set_option linter.unusedVariables false
set_option linter.unusedSimpArgs false
open Go.RowKit Go.Proofs.YtpkmekdpmkfcdaaGreatDoor.Wd Go.Proofs.YtpkmekdpmkfcdaaGreatDoor.Px Go.Proofs.YtpkmekdpmkfcdaaGreatDoor.By Go.Proofs.YtpkmekdpmkfcdaaGreatDoor.Pf Go.Proofs.YtpkmekdpmkfcdaaGreatDoor.Sc
open Go.Proofs.YtpkmekdpmkfcdaaGreatDoor.Sr (own_same own_kind own_low CRow ORow OpO Opv Und fltC Lim LimO chC opC nl put14)
def put8 (W : World) (R : Nat) (v0 v1 v2 v3 v4 v5 v6 v7 : Value) : World := (((((((W.setCell ⟨R,0,none⟩ v0).setCell ⟨R,1,none⟩ v1).setCell ⟨R,2,none⟩ v2).setCell ⟨R,3,none⟩ v3).setCell ⟨R,4,none⟩ v4).setCell ⟨R,5,none⟩ v5).setCell ⟨R,6,none⟩ v6).setCell ⟨R,7,none⟩ v7
theorem set8 (a : Array Value) (ha : a.size = 8) (v0 v1 v2 v3 v4 v5 v6 v7 : Value) : ((((((((a.setIfInBounds 0 v0).setIfInBounds 1 v1).setIfInBounds 2 v2).setIfInBounds 3 v3).setIfInBounds 4 v4).setIfInBounds 5 v5).setIfInBounds 6 v6).setIfInBounds 7 v7) = #[v0,v1,v2,v3,v4,v5,v6,v7] := by
 obtain ⟨l⟩ := a
 simp only [List.size_toArray] at ha
 match l,ha with
 | [_,_,_,_,_,_,_,_],_ => simp
theorem put8_blk {W : World} {R : Nat} {t : TypeId} {a : Array Value} (h : Sr.Blk R a t W) (ha : a.size = 8) (v0 v1 v2 v3 v4 v5 v6 v7 : Value) : Sr.Blk R #[v0,v1,v2,v3,v4,v5,v6,v7] t (put8 W R v0 v1 v2 v3 v4 v5 v6 v7) := by
 have := (((((((h.set 0 v0).set 1 v1).set 2 v2).set 3 v3).set 4 v4).set 5 v5).set 6 v6).set 7 v7
 rw [set8 a ha] at this
 exact this
theorem put8_below {B : Nat} {a W : World} {R : Nat} (h : Below B a W) (hR : B ≤ R) (v0 v1 v2 v3 v4 v5 v6 v7 : Value) : Below B a (put8 W R v0 v1 v2 v3 v4 v5 v6 v7) :=
 (((((((h.setCell hR _).setCell hR _).setCell hR _).setCell hR _).setCell hR _).setCell hR _).setCell hR _).setCell hR _
theorem cel_ofNat (n : Nat) : cel (UInt8.ofNat n) = .int .u8 ((n % 256 : Nat) : Int) := by
 unfold cel
 rw [UInt8.toNat_ofNat']
set_option maxHeartbeats 1000000 in
theorem mark_B (K p id j : Nat) (w : World) (hc : w.cell? ⟨K,1,none⟩ = some (.int .i64 (p : Int))) (hp : p ≤ 1) (hid : id ≤ 10000000000000) (hj : j ≤ 10000000000000) :
  Calls Tryz.prog 180 #[.pointer (some ⟨K,0,none⟩),.int .i64 (id : Int),.int .i64 (j : Int)] w fun e w' => e = .returned (cel (bmk p id j)) ∧ Below w.heap.size w w' := by
 have hcel := cel_ofNat (bmn p id j)
 unfold bmk
 rw [hcel]
 unfold bmn
 clear hcel
 rcases (by omega : p = 0 ∨ p = 1) with rfl | rfl
 ·have w1 : IntKind.i64.wrap ((id : Int) / 256 * 59) = (id : Int) / 256 * 59 := IntWalk.i64_in _ ⟨by omega,by omega⟩
  have w2 : IntKind.i64.wrap ((j : Int) * 13) = (j : Int) * 13 := IntWalk.i64_in _ ⟨by omega,by omega⟩
  have w3 : IntKind.i64.wrap ((id : Int) / 256 * 59 + (j : Int) * 13) = (id : Int) / 256 * 59 + (j : Int) * 13 := IntWalk.i64_in _ ⟨by omega,by omega⟩
  have w4 : IntKind.i64.wrap ((id : Int) % 256 * 3) = (id : Int) % 256 * 3 := IntWalk.i64_in _ ⟨by omega,by omega⟩
  have w5 : IntKind.i64.wrap ((id : Int) / 256 * 59 + (j : Int) * 13 + (id : Int) % 256 * 3) = (id : Int) / 256 * 59 + (j : Int) * 13 + (id : Int) % 256 * 3 := IntWalk.i64_in _ ⟨by omega,by omega⟩
  have w6 : IntKind.i64.wrap ((id : Int) / 256 * 59 + (j : Int) * 13 + (id : Int) % 256 * 3 + 1) = (id : Int) / 256 * 59 + (j : Int) * 13 + (id : Int) % 256 * 3 + 1 := IntWalk.i64_in _ ⟨by omega,by omega⟩
  have d1 : (id : Int).tdiv 256 = (id : Int) / 256 := Int.tdiv_eq_ediv_of_nonneg (by omega)
  have d2 : (id : Int).tmod 256 = (id : Int) % 256 := Int.tmod_eq_emod_of_nonneg (by omega)
  have d3 : IntKind.i64.wrap ((id : Int) / 256) = (id : Int) / 256 := IntWalk.i64_in _ ⟨by omega,by omega⟩
  go_enter Tryz.func180,Tryz.ntmps180
  go_wp2
  go_ret
  refine ⟨?_,Below.refl _ _⟩
  refine ret_int ?_
  simp
 ·have w1 : IntKind.i64.wrap ((id : Int) * 97) = (id : Int) * 97 := IntWalk.i64_in _ ⟨by omega,by omega⟩
  have w2 : IntKind.i64.wrap ((j : Int) * 31) = (j : Int) * 31 := IntWalk.i64_in _ ⟨by omega,by omega⟩
  have w3 : IntKind.i64.wrap ((id : Int) * 97 + (j : Int) * 31) = (id : Int) * 97 + (j : Int) * 31 := IntWalk.i64_in _ ⟨by omega,by omega⟩
  go_enter Tryz.func180,Tryz.ntmps180
  go_wp2
  go_ret
  refine ⟨?_,Below.refl _ _⟩
  refine ret_int ?_
  simp
set_option maxHeartbeats 1000000 in
theorem mark_L (K p id j : Nat) (w : World) (hc : w.cell? ⟨K,1,none⟩ = some (.int .i64 (p : Int))) (hp : p ≤ 1) (hid : id ≤ 10000000000000) (hj : j ≤ 10000000000000) :
  Calls Tryz.prog 181 #[.pointer (some ⟨K,0,none⟩),.int .i64 (id : Int),.int .i64 (j : Int)] w fun e w' => e = .returned (.bool (lmk p id j)) ∧ Below w.heap.size w w' := by
 have w1 : IntKind.i64.wrap ((id : Int) + (j : Int)) = (id : Int) + (j : Int) := IntWalk.i64_in _ ⟨by omega,by omega⟩
 have w2 : IntKind.i64.wrap ((id : Int) + (j : Int) + (p : Int)) = (id : Int) + (j : Int) + (p : Int) := IntWalk.i64_in _ ⟨by omega,by omega⟩
 obtain ⟨q,hq⟩ : ∃ q : Int,((id : Int) + (j : Int) + (p : Int)).tmod 2 = q := ⟨_,rfl⟩
 have hq2 := hq
 rw [Int.tmod_eq_emod_of_nonneg (by omega)] at hq2
 obtain ⟨b,hb⟩ : ∃ b,(q == 0) = b := ⟨_,rfl⟩
 have hv : lmk p id j = b := by
  rw [← hb,← hq2]
  unfold lmk
  rw [Bool.eq_iff_iff,beq_iff_eq,beq_iff_eq]
  omega
 rw [hv]
 clear hv hq2
 go_enter Tryz.func181,Tryz.ntmps181
 go_wp2
 go_ret
 exact ⟨rfl,Below.refl _ _⟩
set_option maxRecDepth 20000 in
set_option maxHeartbeats 2000000 in
theorem close_F {W : World} {R : Nat} {a0 a1 v0 v1 : Value} {t : TypeId} (h : Sr.Blk R #[a0,a1] t W) {tmps : Array Value} {Qp : Ending → World → Prop}
  (h6 : (tmps[6]?).getD undef = .pointer (some ⟨R,0,none⟩)) (hQ : ∀ W8 : World,(∀ B a,B ≤ R → Below B a W → Below B a W8) → Qp (.returned (.agg #[v0,v1])) W8) :
  bodyPost Tryz.prog Tryz.f193 Qp .ret { tmps := tmps,defers := [] } ((W.setCell ⟨R,0,none⟩ v0).setCell ⟨R,1,none⟩ v1) := by
 have h8 : Sr.Blk R #[v0,v1] t ((W.setCell ⟨R,0,none⟩ v0).setCell ⟨R,1,none⟩ v1) := ((h.set 0 v0).set 1 v1)
 have hQ' := hQ ((W.setCell ⟨R,0,none⟩ v0).setCell ⟨R,1,none⟩ v1) (fun B a hB hb => ((hb.setCell (p := ⟨R,0,none⟩) hB v0).setCell (p := ⟨R,1,none⟩) hB v1))
 clear hQ h
 generalize ((W.setCell ⟨R,0,none⟩ v0).setCell ⟨R,1,none⟩ v1) = W8 at h8 hQ' ⊢
 have e0 : W8.cell? ⟨R,0,none⟩ = some v0 := h8.cell rfl
 have e1 : W8.cell? ⟨R,1,none⟩ = some v1 := h8.cell rfl
 clear h8
 exact bodyPost_ret (v := .agg #[v0,v1]) (by simp [results,Tryz.results193,go_sem, *]) rfl hQ'
set_option maxRecDepth 20000 in
set_option maxHeartbeats 4000000 in
theorem mark_F (K p id j : Nat) (w : World) (hc : w.cell? ⟨K,1,none⟩ = some (.int .i64 (p : Int))) (hp : p ≤ 1) (hid : id ≤ 10000000000000) (hj : j ≤ 10000000000000) :
  Calls Tryz.prog 193 #[.pointer (some ⟨K,0,none⟩),.int .i64 (id : Int),.int .i64 (j : Int)] w fun e w' => e = .returned (.agg #[.int .i64 (id : Int),.int .i64 ((2 * j + p : Nat) : Int)]) ∧ Below w.heap.size w w' := by
 have w1 : IntKind.i64.wrap (2 * (j : Int)) = 2 * (j : Int) := IntWalk.i64_in _ ⟨by omega,by omega⟩
 have w2 : IntKind.i64.wrap (2 * (j : Int) + (p : Int)) = 2 * (j : Int) + (p : Int) := IntWalk.i64_in _ ⟨by omega,by omega⟩
 have hb0 := one w (.cells #[.int .i64 0,.int .i64 0] 125)
 have hB0 : Sr.Blk w.heap.size #[.int .i64 0,.int .i64 0] 125 (w.alloc (.cells #[.int .i64 0,.int .i64 0] 125)) := Sr.blk_new w _ _
 have hc1 := keepc hb0 hc
 go_enter Tryz.func193,Tryz.ntmps193
 go_upto_region 1 with fail
 change Code.wp _ _ _ _ (w.alloc (.cells #[.int .i64 0,.int .i64 0] 125))
 generalize (w.alloc (.cells #[.int .i64 0,.int .i64 0] 125)) = W0 at hb0 hB0 hc1 ⊢
 obtain ⟨R,hR⟩ : ∃ R,w.heap.size = R := ⟨_,rfl⟩
 have hRl : w.heap.size ≤ R := Nat.le_of_eq hR
 rw [hR] at hB0 ⊢
 have r0 : W0.cell? ⟨R,0,none⟩ = some (.int .i64 0) := hB0.cell rfl
 have r1 : W0.cell? ⟨R,1,none⟩ = some (.int .i64 0) := hB0.cell rfl
 have fr := hB0.open_
 clear hR hc
 have HV : Hid ((.agg #[.int .i64 (id : Int),.int .i64 ((2 * j + p : Nat) : Int)] : Value) = .agg #[.int .i64 (id : Int),.int .i64 (2 * (j : Int) + (p : Int))]) := Lib.hid (by simp [cmk,omk,opp0,chC,opC,nl])
 go_wp2
 refine close_F hB0 rfl fun W8 hb8 => ⟨?_,hb8 _ _ hRl hb0⟩
 rw [HV.out]
set_option maxRecDepth 20000 in
set_option maxHeartbeats 2000000 in
theorem close_C {W : World} {R : Nat} {a0 a1 a2 a3 a4 a5 a6 a7 v0 v1 v2 v3 v4 v5 v6 v7 : Value} {t : TypeId} (h : Sr.Blk R #[a0,a1,a2,a3,a4,a5,a6,a7] t W) {tmps : Array Value} {Qp : Ending → World → Prop}
  (h6 : (tmps[6]?).getD undef = .pointer (some ⟨R,0,none⟩)) (hQ : ∀ W8 : World,(∀ B a,B ≤ R → Below B a W → Below B a W8) → Qp (.returned (.agg #[v0,v1,v2,v3,v4,v5,v6,v7])) W8) :
  bodyPost Tryz.prog Tryz.f192 Qp .ret { tmps := tmps,defers := [] } (put8 W R v0 v1 v2 v3 v4 v5 v6 v7) := by
 have h8 : Sr.Blk R #[v0,v1,v2,v3,v4,v5,v6,v7] t (put8 W R v0 v1 v2 v3 v4 v5 v6 v7) := (put8_blk h rfl v0 v1 v2 v3 v4 v5 v6 v7)
 have hQ' := hQ (put8 W R v0 v1 v2 v3 v4 v5 v6 v7) (fun B a hB hb => (put8_below hb hB v0 v1 v2 v3 v4 v5 v6 v7))
 clear hQ h
 generalize (put8 W R v0 v1 v2 v3 v4 v5 v6 v7) = W8 at h8 hQ' ⊢
 have e0 : W8.cell? ⟨R,0,none⟩ = some v0 := h8.cell rfl
 have e1 : W8.cell? ⟨R,1,none⟩ = some v1 := h8.cell rfl
 have e2 : W8.cell? ⟨R,2,none⟩ = some v2 := h8.cell rfl
 have e3 : W8.cell? ⟨R,3,none⟩ = some v3 := h8.cell rfl
 have e4 : W8.cell? ⟨R,4,none⟩ = some v4 := h8.cell rfl
 have e5 : W8.cell? ⟨R,5,none⟩ = some v5 := h8.cell rfl
 have e6 : W8.cell? ⟨R,6,none⟩ = some v6 := h8.cell rfl
 have e7 : W8.cell? ⟨R,7,none⟩ = some v7 := h8.cell rfl
 clear h8
 exact bodyPost_ret (v := .agg #[v0,v1,v2,v3,v4,v5,v6,v7]) (by simp [results,Tryz.results192,go_sem, *]) rfl hQ'
set_option maxRecDepth 20000 in
set_option maxHeartbeats 4000000 in
theorem mark_C (K p id j : Nat) (w : World) (hc : w.cell? ⟨K,1,none⟩ = some (.int .i64 (p : Int))) (hp : p ≤ 1) (hid : id ≤ 10000000000000) (hj : j ≤ 10000000000000) :
  Calls Tryz.prog 192 #[.pointer (some ⟨K,0,none⟩),.int .i64 (id : Int),.int .i64 (j : Int)] w fun e w' => e = .returned (.agg (chC (cmk p id j) (.slice none 0 0))) ∧ Below w.heap.size w w' := by
 have w1 : IntKind.i64.wrap (2 * (j : Int)) = 2 * (j : Int) := IntWalk.i64_in _ ⟨by omega,by omega⟩
 have w2 : IntKind.i64.wrap (2 * (j : Int) + (p : Int)) = 2 * (j : Int) + (p : Int) := IntWalk.i64_in _ ⟨by omega,by omega⟩
 have hb0 := one w (.cells #[.int .i64 0,.int .i64 0,.int .i64 0,.slice none 0 0,.int .i64 0,.int .u64 0,.int .u64 0,.int .i64 0] 92)
 have hB0 : Sr.Blk w.heap.size #[.int .i64 0,.int .i64 0,.int .i64 0,.slice none 0 0,.int .i64 0,.int .u64 0,.int .u64 0,.int .i64 0] 92 (w.alloc (.cells #[.int .i64 0,.int .i64 0,.int .i64 0,.slice none 0 0,.int .i64 0,.int .u64 0,.int .u64 0,.int .i64 0] 92)) := Sr.blk_new w _ _
 have hc1 := keepc hb0 hc
 go_enter Tryz.func192,Tryz.ntmps192
 go_upto_region 1 with fail
 change Code.wp _ _ _ _ (w.alloc (.cells #[.int .i64 0,.int .i64 0,.int .i64 0,.slice none 0 0,.int .i64 0,.int .u64 0,.int .u64 0,.int .i64 0] 92))
 generalize (w.alloc (.cells #[.int .i64 0,.int .i64 0,.int .i64 0,.slice none 0 0,.int .i64 0,.int .u64 0,.int .u64 0,.int .i64 0] 92)) = W0 at hb0 hB0 hc1 ⊢
 obtain ⟨R,hR⟩ : ∃ R,w.heap.size = R := ⟨_,rfl⟩
 have hRl : w.heap.size ≤ R := Nat.le_of_eq hR
 rw [hR] at hB0 ⊢
 have r0 : W0.cell? ⟨R,0,none⟩ = some (.int .i64 0) := hB0.cell rfl
 have r1 : W0.cell? ⟨R,1,none⟩ = some (.int .i64 0) := hB0.cell rfl
 have r2 : W0.cell? ⟨R,2,none⟩ = some (.int .i64 0) := hB0.cell rfl
 have r3 : W0.cell? ⟨R,3,none⟩ = some (.slice none 0 0) := hB0.cell rfl
 have r4 : W0.cell? ⟨R,4,none⟩ = some (.int .i64 0) := hB0.cell rfl
 have r5 : W0.cell? ⟨R,5,none⟩ = some (.int .u64 0) := hB0.cell rfl
 have r6 : W0.cell? ⟨R,6,none⟩ = some (.int .u64 0) := hB0.cell rfl
 have r7 : W0.cell? ⟨R,7,none⟩ = some (.int .i64 0) := hB0.cell rfl
 have fr := hB0.open_
 clear hR hc
 have HV : Hid ((.agg (chC (cmk p id j) (.slice none 0 0)) : Value) = .agg #[.int .i64 (id : Int),.int .i64 (2 * (j : Int) + (p : Int)),.int .i64 0,.slice none 0 0,.int .i64 0,.int .u64 0,.int .u64 0,.int .i64 0]) := Lib.hid (by simp [cmk,omk,opp0,chC,opC,nl])
 go_wp2
 refine close_C hB0 rfl fun W8 hb8 => ⟨?_,hb8 _ _ hRl hb0⟩
 rw [HV.out]
set_option maxRecDepth 20000 in
set_option maxHeartbeats 2000000 in
theorem close_O {W : World} {R : Nat} {a0 a1 a2 a3 a4 a5 a6 a7 a8 a9 a10 a11 a12 a13 v0 v1 v2 v3 v4 v5 v6 v7 v8 v9 v10 v11 v12 v13 : Value} {t : TypeId} (h : Sr.Blk R #[a0,a1,a2,a3,a4,a5,a6,a7,a8,a9,a10,a11,a12,a13] t W) {tmps : Array Value} {Qp : Ending → World → Prop}
  (h6 : (tmps[6]?).getD undef = .pointer (some ⟨R,0,none⟩)) (hQ : ∀ W8 : World,(∀ B a,B ≤ R → Below B a W → Below B a W8) → Qp (.returned (.agg #[v0,v1,v2,v3,v4,v5,v6,v7,v8,v9,v10,v11,v12,v13])) W8) :
  bodyPost Tryz.prog Tryz.f195 Qp .ret { tmps := tmps,defers := [] } (put14 W R v0 v1 v2 v3 v4 v5 v6 v7 v8 v9 v10 v11 v12 v13) := by
 have h8 : Sr.Blk R #[v0,v1,v2,v3,v4,v5,v6,v7,v8,v9,v10,v11,v12,v13] t (put14 W R v0 v1 v2 v3 v4 v5 v6 v7 v8 v9 v10 v11 v12 v13) := (Sr.put14_blk h rfl v0 v1 v2 v3 v4 v5 v6 v7 v8 v9 v10 v11 v12 v13)
 have hQ' := hQ (put14 W R v0 v1 v2 v3 v4 v5 v6 v7 v8 v9 v10 v11 v12 v13) (fun B a hB hb => (Sr.put14_below hb hB v0 v1 v2 v3 v4 v5 v6 v7 v8 v9 v10 v11 v12 v13))
 clear hQ h
 generalize (put14 W R v0 v1 v2 v3 v4 v5 v6 v7 v8 v9 v10 v11 v12 v13) = W8 at h8 hQ' ⊢
 have e0 : W8.cell? ⟨R,0,none⟩ = some v0 := h8.cell rfl
 have e1 : W8.cell? ⟨R,1,none⟩ = some v1 := h8.cell rfl
 have e2 : W8.cell? ⟨R,2,none⟩ = some v2 := h8.cell rfl
 have e3 : W8.cell? ⟨R,3,none⟩ = some v3 := h8.cell rfl
 have e4 : W8.cell? ⟨R,4,none⟩ = some v4 := h8.cell rfl
 have e5 : W8.cell? ⟨R,5,none⟩ = some v5 := h8.cell rfl
 have e6 : W8.cell? ⟨R,6,none⟩ = some v6 := h8.cell rfl
 have e7 : W8.cell? ⟨R,7,none⟩ = some v7 := h8.cell rfl
 have e8 : W8.cell? ⟨R,8,none⟩ = some v8 := h8.cell rfl
 have e9 : W8.cell? ⟨R,9,none⟩ = some v9 := h8.cell rfl
 have e10 : W8.cell? ⟨R,10,none⟩ = some v10 := h8.cell rfl
 have e11 : W8.cell? ⟨R,11,none⟩ = some v11 := h8.cell rfl
 have e12 : W8.cell? ⟨R,12,none⟩ = some v12 := h8.cell rfl
 have e13 : W8.cell? ⟨R,13,none⟩ = some v13 := h8.cell rfl
 clear h8
 exact bodyPost_ret (v := .agg #[v0,v1,v2,v3,v4,v5,v6,v7,v8,v9,v10,v11,v12,v13]) (by simp [results,Tryz.results195,go_sem, *]) rfl hQ'
set_option maxRecDepth 20000 in
set_option maxHeartbeats 4000000 in
theorem mark_O (K p id j : Nat) (w : World) (hc : w.cell? ⟨K,1,none⟩ = some (.int .i64 (p : Int))) (hp : p ≤ 1) (hid : id ≤ 10000000000000) (hj : j ≤ 10000000000000) :
  Calls Tryz.prog 195 #[.pointer (some ⟨K,0,none⟩),.int .i64 (id : Int),.int .i64 (j : Int)] w fun e w' => e = .returned (.agg (opC (omk p id j) nl nl nl nl)) ∧ Below w.heap.size w w' := by
 have w1 : IntKind.i64.wrap (2 * (j : Int)) = 2 * (j : Int) := IntWalk.i64_in _ ⟨by omega,by omega⟩
 have w2 : IntKind.i64.wrap (2 * (j : Int) + (p : Int)) = 2 * (j : Int) + (p : Int) := IntWalk.i64_in _ ⟨by omega,by omega⟩
 have hb0 := one w (.cells #[.int .i64 0,.int .i64 0,.int .i64 0,.int .i64 0,.int .i64 0,.int .i64 0,.slice none 0 0,.int .i64 0,.int .i64 0,.int .i64 0,.int .i64 0,.slice none 0 0,.slice none 0 0,.slice none 0 0] 108)
 have hB0 : Sr.Blk w.heap.size #[.int .i64 0,.int .i64 0,.int .i64 0,.int .i64 0,.int .i64 0,.int .i64 0,.slice none 0 0,.int .i64 0,.int .i64 0,.int .i64 0,.int .i64 0,.slice none 0 0,.slice none 0 0,.slice none 0 0] 108 (w.alloc (.cells #[.int .i64 0,.int .i64 0,.int .i64 0,.int .i64 0,.int .i64 0,.int .i64 0,.slice none 0 0,.int .i64 0,.int .i64 0,.int .i64 0,.int .i64 0,.slice none 0 0,.slice none 0 0,.slice none 0 0] 108)) := Sr.blk_new w _ _
 have hc1 := keepc hb0 hc
 go_enter Tryz.func195,Tryz.ntmps195
 go_upto_region 1 with fail
 change Code.wp _ _ _ _ (w.alloc (.cells #[.int .i64 0,.int .i64 0,.int .i64 0,.int .i64 0,.int .i64 0,.int .i64 0,.slice none 0 0,.int .i64 0,.int .i64 0,.int .i64 0,.int .i64 0,.slice none 0 0,.slice none 0 0,.slice none 0 0] 108))
 generalize (w.alloc (.cells #[.int .i64 0,.int .i64 0,.int .i64 0,.int .i64 0,.int .i64 0,.int .i64 0,.slice none 0 0,.int .i64 0,.int .i64 0,.int .i64 0,.int .i64 0,.slice none 0 0,.slice none 0 0,.slice none 0 0] 108)) = W0 at hb0 hB0 hc1 ⊢
 obtain ⟨R,hR⟩ : ∃ R,w.heap.size = R := ⟨_,rfl⟩
 have hRl : w.heap.size ≤ R := Nat.le_of_eq hR
 rw [hR] at hB0 ⊢
 have r0 : W0.cell? ⟨R,0,none⟩ = some (.int .i64 0) := hB0.cell rfl
 have r1 : W0.cell? ⟨R,1,none⟩ = some (.int .i64 0) := hB0.cell rfl
 have r2 : W0.cell? ⟨R,2,none⟩ = some (.int .i64 0) := hB0.cell rfl
 have r3 : W0.cell? ⟨R,3,none⟩ = some (.int .i64 0) := hB0.cell rfl
 have r4 : W0.cell? ⟨R,4,none⟩ = some (.int .i64 0) := hB0.cell rfl
 have r5 : W0.cell? ⟨R,5,none⟩ = some (.int .i64 0) := hB0.cell rfl
 have r6 : W0.cell? ⟨R,6,none⟩ = some (.slice none 0 0) := hB0.cell rfl
 have r7 : W0.cell? ⟨R,7,none⟩ = some (.int .i64 0) := hB0.cell rfl
 have r8 : W0.cell? ⟨R,8,none⟩ = some (.int .i64 0) := hB0.cell rfl
 have r9 : W0.cell? ⟨R,9,none⟩ = some (.int .i64 0) := hB0.cell rfl
 have r10 : W0.cell? ⟨R,10,none⟩ = some (.int .i64 0) := hB0.cell rfl
 have r11 : W0.cell? ⟨R,11,none⟩ = some (.slice none 0 0) := hB0.cell rfl
 have r12 : W0.cell? ⟨R,12,none⟩ = some (.slice none 0 0) := hB0.cell rfl
 have r13 : W0.cell? ⟨R,13,none⟩ = some (.slice none 0 0) := hB0.cell rfl
 have fr := hB0.open_
 clear hR hc
 have HV : Hid ((.agg (opC (omk p id j) nl nl nl nl) : Value) = .agg #[.int .i64 (id : Int),.int .i64 (2 * (j : Int) + (p : Int)),.int .i64 0,.int .i64 0,.int .i64 0,.int .i64 0,.slice none 0 0,.int .i64 0,.int .i64 0,.int .i64 0,.int .i64 0,.slice none 0 0,.slice none 0 0,.slice none 0 0]) := Lib.hid (by simp [cmk,omk,opp0,chC,opC,nl])
 go_wp2
 refine close_O hB0 rfl fun W8 hb8 => ⟨?_,hb8 _ _ hRl hb0⟩
 rw [HV.out]
theorem mkB_eq {p id j : Nat} {J : Int} {M : Int} (hJ : Hid ((id : Int) = J)) (hM : Hid (((bmk p id j).toNat : Int) = M)) : kB.mkf p id j = [.int .u8 M] := by
 have h1 := hJ.out
 have h2 := hM.out
 subst h1
 subst h2
 rfl
theorem mark_B_as {K p id j : Nat} {J : Int} {M : Int} (hJ : Hid ((id : Int) = J)) (hM : Hid (((bmk p id j).toNat : Int) = M)) (w : World) (hc : w.cell? ⟨K,1,none⟩ = some (.int .i64 (p : Int))) (hp : p ≤ 1) (hid : id ≤ 10000000000000) (hj : j ≤ 10000000000000) :
  Calls Tryz.prog 180 #[.pointer (some ⟨K,0,none⟩),.int .i64 J,.int .i64 (j : Int)] w fun e w' => e = .returned (.int .u8 M) ∧ Below w.heap.size w w' := by
 have h1 := hJ.out
 have h2 := hM.out
 subst h1
 subst h2
 exact mark_B K p id j w hc hp hid hj
theorem mkL_eq {p id j : Nat} {J : Int} {M : Bool} (hJ : Hid ((id : Int) = J)) (hM : Hid (lmk p id j = M)) : kL.mkf p id j = [.bool M] := by
 have h1 := hJ.out
 have h2 := hM.out
 subst h1
 subst h2
 rfl
theorem mark_L_as {K p id j : Nat} {J : Int} {M : Bool} (hJ : Hid ((id : Int) = J)) (hM : Hid (lmk p id j = M)) (w : World) (hc : w.cell? ⟨K,1,none⟩ = some (.int .i64 (p : Int))) (hp : p ≤ 1) (hid : id ≤ 10000000000000) (hj : j ≤ 10000000000000) :
  Calls Tryz.prog 181 #[.pointer (some ⟨K,0,none⟩),.int .i64 J,.int .i64 (j : Int)] w fun e w' => e = .returned (.bool M) ∧ Below w.heap.size w w' := by
 have h1 := hJ.out
 have h2 := hM.out
 subst h1
 subst h2
 exact mark_L K p id j w hc hp hid hj
theorem mkF_eq {p id j : Nat} {J : Int} {M : Int} (hJ : Hid ((id : Int) = J)) (hM : Hid (((2 * j + p : Nat) : Int) = M)) : kF.mkf p id j = [.int .i64 J,.int .i64 M] := by
 have h1 := hJ.out
 have h2 := hM.out
 subst h1
 subst h2
 rfl
theorem mark_F_as {K p id j : Nat} {J : Int} {M : Int} (hJ : Hid ((id : Int) = J)) (hM : Hid (((2 * j + p : Nat) : Int) = M)) (w : World) (hc : w.cell? ⟨K,1,none⟩ = some (.int .i64 (p : Int))) (hp : p ≤ 1) (hid : id ≤ 10000000000000) (hj : j ≤ 10000000000000) :
  Calls Tryz.prog 193 #[.pointer (some ⟨K,0,none⟩),.int .i64 J,.int .i64 (j : Int)] w fun e w' => e = .returned (.agg #[.int .i64 J,.int .i64 M]) ∧ Below w.heap.size w w' := by
 have h1 := hJ.out
 have h2 := hM.out
 subst h1
 subst h2
 exact mark_F K p id j w hc hp hid hj
theorem mkC_eq {p id j : Nat} {J : Int} {M : Int} (hJ : Hid ((id : Int) = J)) (hM : Hid (((2 * j + p : Nat) : Int) = M)) : kC.mkf p id j = [.int .i64 J,.int .i64 M,.int .i64 0,.slice none 0 0,.int .i64 0,.int .u64 0,.int .u64 0,.int .i64 0] := by
 have h1 := hJ.out
 have h2 := hM.out
 subst h1
 subst h2
 rfl
theorem mark_C_as {K p id j : Nat} {J : Int} {M : Int} (hJ : Hid ((id : Int) = J)) (hM : Hid (((2 * j + p : Nat) : Int) = M)) (w : World) (hc : w.cell? ⟨K,1,none⟩ = some (.int .i64 (p : Int))) (hp : p ≤ 1) (hid : id ≤ 10000000000000) (hj : j ≤ 10000000000000) :
  Calls Tryz.prog 192 #[.pointer (some ⟨K,0,none⟩),.int .i64 J,.int .i64 (j : Int)] w fun e w' => e = .returned (.agg #[.int .i64 J,.int .i64 M,.int .i64 0,.slice none 0 0,.int .i64 0,.int .u64 0,.int .u64 0,.int .i64 0]) ∧ Below w.heap.size w w' := by
 have h1 := hJ.out
 have h2 := hM.out
 subst h1
 subst h2
 exact mark_C K p id j w hc hp hid hj
theorem mkO_eq {p id j : Nat} {J : Int} {M : Int} (hJ : Hid ((id : Int) = J)) (hM : Hid (((2 * j + p : Nat) : Int) = M)) : kO.mkf p id j = [.int .i64 J,.int .i64 M,.int .i64 0,.int .i64 0,.int .i64 0,.int .i64 0,.slice none 0 0,.int .i64 0,.int .i64 0,.int .i64 0,.int .i64 0,.slice none 0 0,.slice none 0 0,.slice none 0 0] := by
 have h1 := hJ.out
 have h2 := hM.out
 subst h1
 subst h2
 rfl
theorem mark_O_as {K p id j : Nat} {J : Int} {M : Int} (hJ : Hid ((id : Int) = J)) (hM : Hid (((2 * j + p : Nat) : Int) = M)) (w : World) (hc : w.cell? ⟨K,1,none⟩ = some (.int .i64 (p : Int))) (hp : p ≤ 1) (hid : id ≤ 10000000000000) (hj : j ≤ 10000000000000) :
  Calls Tryz.prog 195 #[.pointer (some ⟨K,0,none⟩),.int .i64 J,.int .i64 (j : Int)] w fun e w' => e = .returned (.agg #[.int .i64 J,.int .i64 M,.int .i64 0,.int .i64 0,.int .i64 0,.int .i64 0,.slice none 0 0,.int .i64 0,.int .i64 0,.int .i64 0,.int .i64 0,.slice none 0 0,.slice none 0 0,.slice none 0 0]) ∧ Below w.heap.size w w' := by
 have h1 := hJ.out
 have h2 := hM.out
 subst h1
 subst h2
 exact mark_O K p id j w hc hp hid hj
end Go.Proofs.YtpkmekdpmkfcdaaGreatDoor.Kb
