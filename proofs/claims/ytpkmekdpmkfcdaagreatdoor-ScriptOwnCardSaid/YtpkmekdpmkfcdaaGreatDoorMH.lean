/- Plain: what a text's parts say, and the address that the text says. Contract: an address out of its text, by the program: the loop's body and the walk. Plain: from the parts that were read to the address that the text says. -/
import Derived.Test.YtpkmekdpmkfcdaaGreatDoorMG
import Derived.Test.YtpkmekdpmkfcdaaGreatDoorMF
import Derived.Test.YtpkmekdpmkfcdaaGreatDoorME
import Derived.RangeFuncNested
import Derived.RangeFuncBound
import Derived.Laws.BitsAllLaws
namespace Go.Proofs.YtpkmekdpmkfcdaaGreatDoor.Pf
open Go.Lib (decDigits)
open Go.RowKit Go.Shelf Go.Proofs.YtpkmekdpmkfcdaaGreatDoor.Wd Go.Proofs.YtpkmekdpmkfcdaaGreatDoor.Px Go.Proofs.YtpkmekdpmkfcdaaGreatDoor.By Go.Proofs.YtpkmekdpmkfcdaaGreatDoor.En Go.Proofs.YtpkmekdpmkfcdaaGreatDoor.Pl
theorem hexg_hexd : ∀ x,x < 16 → hexg (hexd x) = x := by decide
theorem v16_hex4 (g : Nat) (h : g < 65536) : v16 (hex4 g) = some g := by
 have k (x : Nat) : hexg (hexd (x % 16)) = x % 16 := hexg_hexd _ (by omega)
 unfold v16
 rw [if_neg (by simp [hex4]),hex4,rd16_ok (by rw [k];omega) (by rw [k];omega),k,rd16_ok (by rw [k];omega) (by rw [k];omega),k,rd16_ok (by rw [k];omega) (by rw [k];omega),k,rd16_ok (by rw [k];omega) (by rw [k];omega),k]
 simp only [rd16]
 congr 1
 omega
theorem valA_ge : ∀ (l : List UInt8) (a : Nat),a ≤ valA a l
 | [],a => Nat.le_refl _
 | c :: r,a => Nat.le_trans (by omega) (valA_ge r (a * 10 + (c.toNat - 48)))
theorem uintM_dig (M : Nat) (hM : M < 1000000) : ∀ (l : List UInt8) (a : Nat),(∀ c ∈ l,isDig c = true) → valA a l ≤ M → Lib.parseUintM M a l = .ok (valA a l)
 | [],a,_,_ => rfl
 | c :: r,a,h,hv => by
  have hd := h c (by simp)
  simp only [isDig,decide_eq_true_eq] at hd
  have hv2 : valA (a * 10 + (c.toNat - 48)) r ≤ M := hv
  have := valA_ge r (a * 10 + (c.toNat - 48))
  rw [Lib.parseUintM,if_pos ⟨by omega,by omega⟩,if_neg (by omega),if_neg (by omega),uintM_dig M hM r _ (fun x hx => h x (by simp [hx])) hv2]
  rfl
theorem v8_dec (d : Nat) (h : d < 256) : v8 (decDigits d) = some d := by
 unfold v8 Lib.parseUintB
 rw [if_neg (decDigits_ne d),uintM_dig _ (by omega) _ 0 (decDigits_dig d) (by rw [decDigits_val];omega),decDigits_val]
end Go.Proofs.YtpkmekdpmkfcdaaGreatDoor.Pf
namespace Go.Proofs.YtpkmekdpmkfcdaaGreatDoor.Pf
open Go.RowKit Go.Shelf Go.Proofs.YtpkmekdpmkfcdaaGreatDoor.Wd Go.Proofs.YtpkmekdpmkfcdaaGreatDoor.Px Go.Proofs.YtpkmekdpmkfcdaaGreatDoor.By Go.Proofs.YtpkmekdpmkfcdaaGreatDoor.En Go.Proofs.YtpkmekdpmkfcdaaGreatDoor.Pl
attribute [local go_sem] Oper.semAt_some
theorem parts_any (t : List UInt8) (sep : UInt8) (w : World) : Calls Tryz.prog 258 #[.string ⟨t.toArray⟩,.int .u8 (sep.toNat : Int)] w fun e w' => e = .returned (.func (.func 278) #[] #[.pointer (some ⟨w.heap.size,0,none⟩),.pointer (some ⟨w.heap.size + 1,0,none⟩)]) ∧ w' = (w.alloc (.cells #[.string ⟨t.toArray⟩] 9)).alloc (.cells #[.int .u8 (sep.toNat : Int)] 5) := by
 go_enter Tryz.func258,Tryz.ntmps258
 go_wp2
 go_ret
 exact ⟨rfl,rfl⟩
/-- what ParseAddr answers -/
def ofA : Option (Int × Nat) → Value
 | some p => .tuple #[.agg #[.int .i64 p.1,.int .u64 ((p.2 / 18446744073709551616 : Nat) : Int),.int .u64 ((p.2 % 18446744073709551616 : Nat) : Int)],.int .i64 0]
 | none => .tuple #[.agg #[.int .i64 0,.int .u64 0,.int .u64 0],.int .i64 70]
theorem index_58 {r : List UInt8} {q : Int} (h : Hid (Lib.indexByte r 58 = q)) (w : World) :
  Calls Tryz.prog 257 #[.string ⟨r.toArray⟩,.int .u8 58] w fun e w' => e = .returned (.int .i64 q) ∧ w' = w := index_as (sep := 58) h w
/-- the world of ParseAddr between two rounds: the results' cells, the address, base and size -/
structure PA (w : World) (f : Int) (hi lo : Nat) (bs sz : Int) (W : World) : Prop where
 r0 : W.cell? ⟨w.heap.size,0,none⟩ = some (.int .i64 0)
 r1 : W.cell? ⟨w.heap.size,1,none⟩ = some (.int .u64 0)
 r2 : W.cell? ⟨w.heap.size,2,none⟩ = some (.int .u64 0)
 rf : ∀ o,W.frozen? ⟨w.heap.size,o,none⟩ = false
 e0 : W.cell? ⟨w.heap.size + 1,0,none⟩ = some (.int .i64 0)
 ef : ∀ o,W.frozen? ⟨w.heap.size + 1,o,none⟩ = false
 a0 : W.cell? ⟨w.heap.size + 1 + 1,0,none⟩ = some (.int .i64 f)
 a1 : W.cell? ⟨w.heap.size + 1 + 1,1,none⟩ = some (.int .u64 hi)
 a2 : W.cell? ⟨w.heap.size + 1 + 1,2,none⟩ = some (.int .u64 lo)
 af : ∀ o,W.frozen? ⟨w.heap.size + 1 + 1,o,none⟩ = false
 b0 : W.cell? ⟨w.heap.size + 1 + 1 + 1,0,none⟩ = some (.int .i64 bs)
 z0 : W.cell? ⟨w.heap.size + 1 + 1 + 1 + 1,0,none⟩ = some (.int .i64 sz)
 lt : w.heap.size + 1 + 1 + 1 + 1 + 1 + 1 < W.heap.size
 bl : Below w.heap.size w W
/-- the results' cells when an error is told -/
structure PX (w W : World) : Prop where
 r0 : W.cell? ⟨w.heap.size,0,none⟩ = some (.int .i64 0)
 r1 : W.cell? ⟨w.heap.size,1,none⟩ = some (.int .u64 0)
 r2 : W.cell? ⟨w.heap.size,2,none⟩ = some (.int .u64 0)
 e0 : W.cell? ⟨w.heap.size + 1,0,none⟩ = some (.int .i64 70)
 bl : Below w.heap.size w W
theorem blk_kept {W W' : World} {row : Option Nat} {b o : Nat} {v : Value} {B : Nat} (h : W.cell? ⟨b,o,none⟩ = some v) (hg : W.grownBy W' row) (hr : ∀ r,row = some r → B ≤ r ∧ ∃ o : Obj,W.heap[r]? = some o ∧ o.isCells = false) : W'.heap[b]? = W.heap[b]? := by
 obtain ⟨ob,ho,hc⟩ := cells_of_cell h
 exact grownBy_keeps_cells hg (fun r e => (hr r e).2) ho hc
theorem blk_cell {W W' : World} {b : Nat} (h : W'.heap[b]? = W.heap[b]?) {o : Nat} {v : Value} (hc : W.cell? ⟨b,o,none⟩ = some v) : W'.cell? ⟨b,o,none⟩ = some v := (World.cell?_of_block (a := ⟨b,o,none⟩) h).trans hc
theorem blk_frozen {W W' : World} {b : Nat} (h : W'.heap[b]? = W.heap[b]?) (hc : ∀ o,W.frozen? ⟨b,o,none⟩ = false) : ∀ o,W'.frozen? ⟨b,o,none⟩ = false := fun o => (World.frozen?_of_block (a := ⟨b,o,none⟩) h).trans (hc o)
section
variable {w W W' : World} {f : Int} {hi lo : Nat} {bs sz : Int}
theorem PA.of_blocks (h : PA w f hi lo bs sz W) (h0 : W'.heap[w.heap.size]? = W.heap[w.heap.size]?) (h1 : W'.heap[w.heap.size + 1]? = W.heap[w.heap.size + 1]?) (h2 : W'.heap[w.heap.size + 1 + 1]? = W.heap[w.heap.size + 1 + 1]?) (h3 : W'.heap[w.heap.size + 1 + 1 + 1]? = W.heap[w.heap.size + 1 + 1 + 1]?) (h4 : W'.heap[w.heap.size + 1 + 1 + 1 + 1]? = W.heap[w.heap.size + 1 + 1 + 1 + 1]?)
  (hs : W.heap.size ≤ W'.heap.size) (hb : Below w.heap.size w W') : PA w f hi lo bs sz W' :=
 ⟨blk_cell h0 h.r0,blk_cell h0 h.r1,blk_cell h0 h.r2,blk_frozen h0 h.rf,blk_cell h1 h.e0,blk_frozen h1 h.ef,blk_cell h2 h.a0,blk_cell h2 h.a1,blk_cell h2 h.a2,blk_frozen h2 h.af,blk_cell h3 h.b0,blk_cell h4 h.z0,Nat.lt_of_lt_of_le h.lt hs,hb⟩
theorem PA.on (h : PA w f hi lo bs sz W) (hb : Below W.heap.size W W') : PA w f hi lo bs sz W' :=
 have := h.lt
 h.of_blocks (hb.block _ (by omega)) (hb.block _ (by omega)) (hb.block _ (by omega)) (hb.block _ (by omega)) (hb.block _ (by omega)) hb.size (h.bl.trans (hb.mono h.bl.size))
theorem PA.own {row : Option Nat} {B : Nat} (hB : w.heap.size ≤ B) (h : PA w f hi lo bs sz W) (hg : W.grownBy W' row) (hr : ∀ r,row = some r → B ≤ r ∧ ∃ o : Obj,W.heap[r]? = some o ∧ o.isCells = false) : PA w f hi lo bs sz W' :=
 h.of_blocks (blk_kept h.r0 hg hr) (blk_kept h.e0 hg hr) (blk_kept h.a0 hg hr) (blk_kept h.b0 hg hr) (blk_kept h.z0 hg hr) hg.size (h.bl.grown hg h.bl.size (fun k e => Nat.le_trans hB (hr k e).1))
theorem PA.mind (h : PA w f hi lo bs sz W) (v : Value) : PA w f hi lo bs sz (W.setCell ⟨w.heap.size + 1 + 1 + 1 + 1 + 1,0,none⟩ v) :=
 h.of_blocks (setCell_obj (by omega)) (setCell_obj (by omega)) (setCell_obj (by omega)) (setCell_obj (by omega)) (setCell_obj (by omega)) (by simp) (h.bl.setCell (p := ⟨w.heap.size + 1 + 1 + 1 + 1 + 1,0,none⟩) (by simp;omega) v)
theorem PA.err (h : PA w f hi lo bs sz W) : PX w ((((W.setCell ⟨w.heap.size,0,none⟩ (.int .i64 0)).setCell ⟨w.heap.size,1,none⟩ (.int .u64 0)).setCell ⟨w.heap.size,2,none⟩ (.int .u64 0)).setCell ⟨w.heap.size + 1,0,none⟩ (.int .i64 70)) := by
 obtain ⟨r0,r1,r2,rf,e0,ef,-,-,-,-,-,-,hlt,hbl⟩ := h
 exact ⟨by go_simp,by go_simp,by go_simp,by go_simp,(((hbl.setCell (p := ⟨w.heap.size,0,none⟩) (Nat.le_refl _) _).setCell (p := ⟨w.heap.size,1,none⟩) (Nat.le_refl _) _).setCell (p := ⟨w.heap.size,2,none⟩) (Nat.le_refl _) _).setCell (p := ⟨w.heap.size + 1,0,none⟩) (by simp) _⟩
theorem PA.put2 (h : PA w f hi lo bs sz W) (x y : Nat) : PA w f x y bs sz ((W.setCell ⟨w.heap.size + 1 + 1,1,none⟩ (.int .u64 x)).setCell ⟨w.heap.size + 1 + 1,2,none⟩ (.int .u64 y)) := by
 obtain ⟨r0,r1,r2,rf,e0,ef,a0,a1,a2,af,b0,z0,hlt,hbl⟩ := h
 refine ⟨by go_simp,by go_simp,by go_simp,fun o => ?_,by go_simp,fun o => ?_,by go_simp,by go_simp,by go_simp,fun o => ?_,by go_simp,by go_simp,by simpa using hlt,(hbl.setCell (p := ⟨w.heap.size + 1 + 1,1,none⟩) (by simp;omega) _).setCell (p := ⟨w.heap.size + 1 + 1,2,none⟩) (by simp;omega) _⟩
 ·have := rf o;go_simp
 ·have := ef o;go_simp
 ·have := af o;go_simp
theorem PA.put3 (h : PA w f hi lo bs sz W) (x y : Nat) : PA w f 0 y bs sz (((W.setCell ⟨w.heap.size + 1 + 1,1,none⟩ (.int .u64 x)).setCell ⟨w.heap.size + 1 + 1,2,none⟩ (.int .u64 y)).setCell ⟨w.heap.size + 1 + 1,1,none⟩ (.int .u64 0)) := by
 obtain ⟨r0,r1,r2,rf,e0,ef,a0,a1,a2,af,b0,z0,hlt,hbl⟩ := h
 refine ⟨by go_simp,by go_simp,by go_simp,fun o => ?_,by go_simp,fun o => ?_,by go_simp,by go_simp,by go_simp,fun o => ?_,by go_simp,by go_simp,by simpa using hlt,((hbl.setCell (p := ⟨w.heap.size + 1 + 1,1,none⟩) (by simp;omega) _).setCell (p := ⟨w.heap.size + 1 + 1,2,none⟩) (by simp;omega) _).setCell (p := ⟨w.heap.size + 1 + 1,1,none⟩) (by simp;omega) _⟩
 ·have := rf o;go_simp
 ·have := ef o;go_simp
 ·have := af o;go_simp
theorem PX.own {row : Option Nat} {B : Nat} (hB : w.heap.size ≤ B) (h : PX w W) (hg : W.grownBy W' row) (hr : ∀ r,row = some r → B ≤ r ∧ ∃ o : Obj,W.heap[r]? = some o ∧ o.isCells = false) : PX w W' :=
 ⟨blk_cell (blk_kept h.r0 hg hr) h.r0,blk_cell (blk_kept h.r0 hg hr) h.r1,blk_cell (blk_kept h.r0 hg hr) h.r2,blk_cell (blk_kept h.e0 hg hr) h.e0,h.bl.grown hg h.bl.size (fun k e => Nat.le_trans hB (hr k e).1)⟩
theorem PX.mind (h : PX w W) (v : Value) : PX w (W.setCell ⟨w.heap.size + 1 + 1 + 1 + 1 + 1,0,none⟩ v) :=
 ⟨blk_cell (setCell_obj (by omega)) h.r0,blk_cell (setCell_obj (by omega)) h.r1,blk_cell (setCell_obj (by omega)) h.r2,blk_cell (setCell_obj (by omega)) h.e0,h.bl.setCell (p := ⟨w.heap.size + 1 + 1 + 1 + 1 + 1,0,none⟩) (by simp;omega) v⟩
end
/-- what a round's body keeps: what is no cells, and the iterator's two blocks -/
def Stp (tB sB : Nat) (W W' : World) : Prop := KeepsOthers W W' ∧ Two tB sB W W'
section
variable {tB sB : Nat} {A B C : World}
theorem Stp.refl (A : World) : Stp tB sB A A := ⟨KeepsOthers.refl _,rfl,rfl⟩
theorem Stp.trans (h : Stp tB sB A B) (k : Stp tB sB B C) : Stp tB sB A C := ⟨h.1.trans k.1,h.2.trans k.2⟩
theorem Stp.call (h : Below A.heap.size A B) (ht : tB < A.heap.size) (hs : sB < A.heap.size) : Stp tB sB A B :=
 ⟨⟨h.size,fun k _ hk _ => (h.block k (Array.getElem?_eq_some_iff.1 hk).1).trans hk⟩,h.block _ ht,h.block _ hs⟩
theorem Stp.drew (A : World) : Stp tB sB A A.drew := ⟨KeepsOthers.drew _,rfl,rfl⟩
theorem Stp.set (b o : Nat) (v : Value) (ht : tB ≠ b) (hs : sB ≠ b) : Stp tB sB A (A.setCell ⟨b,o,none⟩ v) :=
 ⟨KeepsOthers.setCell _ _ _,Below.heap_setCell A ⟨b,o,none⟩ v tB ht,Below.heap_setCell A ⟨b,o,none⟩ v sB hs⟩
end
/-- the parts that have come are numbers, and together spell N to the base b -/
def Good (V : List UInt8 → Option Nat) (b m : Nat) (pre : List (List UInt8)) (N : Nat) : Prop := pre.length ≤ m ∧ ∃ ds : List Nat,pre.map V = ds.map some ∧ ofD b ds = N
theorem Good.nil (V : List UInt8 → Option Nat) (b m : Nat) : Good V b m [] 0 := ⟨Nat.zero_le _,[],rfl,rfl⟩
theorem Good.snoc {V : List UInt8 → Option Nat} {b m N u : Nat} {pre : List (List UInt8)} {x : List UInt8} (h : Good V b m pre N) (hx : V x = some u) (hm : pre.length + 1 ≤ m) : Good V b m (pre ++ [x]) (N * b + u) := by
 obtain ⟨-,ds,h1,h2⟩ := h
 exact ⟨by simpa using hm,ds ++ [u],by simp [h1,hx],by rw [ofD_snoc,h2]⟩
theorem Good.lt {V : List UInt8 → Option Nat} {b m N : Nat} {pre : List (List UInt8)} (hV : ∀ x u,V x = some u → u < b) (h : Good V b m pre N) : N < b ^ pre.length := by
 obtain ⟨-,ds,h1,rfl⟩ := h
 have hl : ds.length = pre.length := by have := congrArg List.length h1;simpa using this.symm
 rw [← hl]
 refine ofD_lt b ds fun d hd => ?_
 have : some d ∈ pre.map V := by rw [h1];exact List.mem_map.2 ⟨d,hd,rfl⟩
 obtain ⟨x,-,hx⟩ := List.mem_map.1 this
 exact hV x d hx
/-- the last part that has come is no number, or is one too many -/
def Bad (V : List UInt8 → Option Nat) (m : Nat) (pre : List (List UInt8)) : Prop := ∃ p x,pre = p ++ [x] ∧ (V x = none ∨ m < pre.length)
theorem rd16_lt : ∀ (l : List UInt8) (acc u : Nat),acc ≤ 65535 → rd16 acc l = some u → u < 65536
 | [],acc,u,h,e => by simp [rd16] at e;omega
 | c :: r,acc,u,h,e => by
  rw [rd16] at e
  split at e
  ·cases e
  ·split at e
   ·cases e
   ·exact rd16_lt r _ u (by omega) e
theorem v16_lt (l : List UInt8) (u : Nat) (h : v16 l = some u) : u < 65536 := by
 unfold v16 at h
 split at h
 ·cases h
 ·exact rd16_lt l 0 u (by omega) h
theorem uintM_lt (M : Nat) : ∀ (l : List UInt8) (acc u : Nat),acc ≤ M → Lib.parseUintM M acc l = .ok u → u ≤ M
 | [],acc,u,h,e => by simp [Lib.parseUintM] at e;omega
 | c :: r,acc,u,h,e => by
  rw [Lib.parseUintM] at e
  split at e
  ·split at e
   ·cases e
   ·split at e
    ·cases e
    ·exact uintM_lt M r _ u (by omega) e
  ·cases e
theorem v8_lt (l : List UInt8) (u : Nat) (h : v8 l = some u) : u < 256 := by
 unfold v8 at h
 split at h
 ·rename_i x hx
  injection h with h
  subst h
  unfold Lib.parseUintB at hx
  split at hx
  ·cases hx
  ·have := uintM_lt _ l 0 x (by omega) hx
   omega
 ·cases h
theorem part_len {sep : UInt8} {t x : List UInt8} {pre : List (List UInt8)} (h : pre ++ [x] <+: split sep t) : x.length ≤ t.length := by
 have hx : x ∈ split sep t := h.subset (by simp)
 have key : ∀ (t : List UInt8) (x : List UInt8),x ∈ split sep t → x.length ≤ t.length := by
  intro t
  induction t with
  | nil => intro x hx;simp [split] at hx;simp [hx]
  | cons c r ih =>
   intro x hx
   rw [split] at hx
   split at hx
   ·rcases List.mem_cons.1 hx with rfl | hx
    ·simp
    ·have := ih x hx;simp;omega
   ·cases hr : split sep r with
    | nil => exact absurd hr (split_ne sep r)
    | cons a b =>
     rw [hr] at hx ih
     rcases List.mem_cons.1 hx with rfl | hx
     ·have := ih a (by simp);simp;omega
     ·have := ih x (by simp [hx]);simp;omega
 exact key t x hx
theorem parse16_some {x : List UInt8} {u : Nat} (h : Hid (v16 x = some u)) (hs : x.length ≤ 140737488355328) (w : World) (hE : Env w) :
  Calls Tryz.prog 163 #[.string ⟨x.toArray⟩,.int .i64 16,.int .i64 16] w fun e w' => e = .returned (.tuple #[.int .u64 (u : Int),.nilIface]) ∧ Below w.heap.size w w' := by
 have := parse16_any ⟨x.toArray⟩ hs w hE
 rw [show (⟨x.toArray⟩ : ByteArray).data.toList = x from rfl,h.out] at this
 exact this
theorem parse16_none {x : List UInt8} (h : Hid (v16 x = none)) (hs : x.length ≤ 140737488355328) (w : World) (hE : Env w) :
  Calls Tryz.prog 163 #[.string ⟨x.toArray⟩,.int .i64 16,.int .i64 16] w fun e w' => (∃ (u : Int) (N : Nat),e = .returned (.tuple #[.int .u64 u,.iface 316 (.pointer (some ⟨N,0,none⟩))])) ∧ Below w.heap.size w w' := by
 have := parse16_any ⟨x.toArray⟩ hs w hE
 rw [show (⟨x.toArray⟩ : ByteArray).data.toList = x from rfl,h.out] at this
 exact this
theorem parse8_some {x : List UInt8} {u : Nat} (h : Hid (v8 x = some u)) (hs : x.length ≤ 140737488355328) (w : World) (hE : Env w) :
  Calls Tryz.prog 163 #[.string ⟨x.toArray⟩,.int .i64 10,.int .i64 8] w fun e w' => e = .returned (.tuple #[.int .u64 (u : Int),.nilIface]) ∧ Below w.heap.size w w' := by
 have := parse8_any ⟨x.toArray⟩ hs w hE
 rw [show (⟨x.toArray⟩ : ByteArray).data.toList = x from rfl,h.out] at this
 exact this
theorem parse8_none {x : List UInt8} (h : Hid (v8 x = none)) (hs : x.length ≤ 140737488355328) (w : World) (hE : Env w) :
  Calls Tryz.prog 163 #[.string ⟨x.toArray⟩,.int .i64 10,.int .i64 8] w fun e w' => (∃ (u : Int) (N : Nat),e = .returned (.tuple #[.int .u64 u,.iface 316 (.pointer (some ⟨N,0,none⟩))])) ∧ Below w.heap.size w w' := by
 have := parse8_any ⟨x.toArray⟩ hs w hE
 rw [show (⟨x.toArray⟩ : ByteArray).data.toList = x from rfl,h.out] at this
 exact this
theorem sh16 (hi : Nat) (h : hi < 281474976710656) : IntKind.u64.wrap ((hi : Int) * 65536) = ((hi * 65536 : Nat) : Int) := by
 rw [IntKind.wrap_u64];omega
theorem sl16 (lo : Nat) : IntKind.u64.wrap ((lo : Int) * 65536) = ((lo % 281474976710656 * 65536 : Nat) : Int) := by
 rw [IntKind.wrap_u64];omega
theorem or16 (a b : Nat) (hb : b < 65536) (ha : a < 281474976710656) : bits .or .u64 ((a * 65536 : Nat) : Int) (b : Int) = ((a * 65536 + b : Nat) : Int) := by
 rw [u64_or_nat _ _ (by omega) (by omega)]
 have := Nat.shiftLeft_add_eq_or_of_lt (i := 16) (b := b) (show b < 2 ^ 16 from hb) a
 rw [Nat.shiftLeft_eq] at this
 rw [← this]
theorem nx16 (N u : Nat) (hu : u < 65536) : (N * 65536 + u) / 18446744073709551616 = N / 18446744073709551616 * 65536 + N % 18446744073709551616 / 281474976710656 ∧ (N * 65536 + u) % 18446744073709551616 = N % 18446744073709551616 % 281474976710656 * 65536 + u := by
 constructor <;> omega
theorem sh8 (hi : Nat) (h : hi < 72057594037927936) : IntKind.u64.wrap ((hi : Int) * 256) = ((hi * 256 : Nat) : Int) := by
 rw [IntKind.wrap_u64];omega
theorem sl8 (lo : Nat) : IntKind.u64.wrap ((lo : Int) * 256) = ((lo % 72057594037927936 * 256 : Nat) : Int) := by
 rw [IntKind.wrap_u64];omega
theorem or8 (a b : Nat) (hb : b < 256) (ha : a < 72057594037927936) : bits .or .u64 ((a * 256 : Nat) : Int) (b : Int) = ((a * 256 + b : Nat) : Int) := by
 rw [u64_or_nat _ _ (by omega) (by omega)]
 have := Nat.shiftLeft_add_eq_or_of_lt (i := 8) (b := b) (show b < 2 ^ 8 from hb) a
 rw [Nat.shiftLeft_eq] at this
 rw [← this]
theorem nx8 (N u : Nat) (hu : u < 256) : (N * 256 + u) / 18446744073709551616 = N / 18446744073709551616 * 256 + N % 18446744073709551616 / 72057594037927936 ∧ (N * 256 + u) % 18446744073709551616 = N % 18446744073709551616 % 72057594037927936 * 256 + u := by
 constructor <;> omega
end Go.Proofs.YtpkmekdpmkfcdaaGreatDoor.Pf
namespace Go.Proofs.YtpkmekdpmkfcdaaGreatDoor.Pf
open Go.Lib (decDigits)
open Go.RowKit Go.Shelf Go.Proofs.YtpkmekdpmkfcdaaGreatDoor.Wd Go.Proofs.YtpkmekdpmkfcdaaGreatDoor.Px Go.Proofs.YtpkmekdpmkfcdaaGreatDoor.By Go.Proofs.YtpkmekdpmkfcdaaGreatDoor.En Go.Proofs.YtpkmekdpmkfcdaaGreatDoor.Pl
/-- the results' cells when all is told -/
structure PR (w : World) (f hi lo e : Int) (W : World) : Prop where
 r0 : W.cell? ⟨w.heap.size,0,none⟩ = some (.int .i64 f)
 r1 : W.cell? ⟨w.heap.size,1,none⟩ = some (.int .u64 hi)
 r2 : W.cell? ⟨w.heap.size,2,none⟩ = some (.int .u64 lo)
 e0 : W.cell? ⟨w.heap.size + 1,0,none⟩ = some (.int .i64 e)
 bl : Below w.heap.size w W
theorem PX.pr {w W : World} (h : PX w W) : PR w 0 0 0 70 W := ⟨h.r0,h.r1,h.r2,h.e0,h.bl⟩
theorem PA.tell {w W : World} {f : Int} {hi lo : Nat} {bs sz : Int} (h : PA w f hi lo bs sz W) (f' x y e : Int) : PR w f' x y e ((((W.setCell ⟨w.heap.size,0,none⟩ (.int .i64 f')).setCell ⟨w.heap.size,1,none⟩ (.int .u64 x)).setCell ⟨w.heap.size,2,none⟩ (.int .u64 y)).setCell ⟨w.heap.size + 1,0,none⟩ (.int .i64 e)) := by
 obtain ⟨r0,r1,r2,rf,e0,ef,-,-,-,-,-,-,hlt,hbl⟩ := h
 exact ⟨by go_simp,by go_simp,by go_simp,by go_simp,(((hbl.setCell (p := ⟨w.heap.size,0,none⟩) (Nat.le_refl _) _).setCell (p := ⟨w.heap.size,1,none⟩) (Nat.le_refl _) _).setCell (p := ⟨w.heap.size,2,none⟩) (Nat.le_refl _) _).setCell (p := ⟨w.heap.size + 1,0,none⟩) (by simp) _⟩
theorem PR.shut {w W : World} {f hi lo e : Int} (h : PR w f hi lo e W) {D : Nat} {o o' : Obj} (hK : W.heap[D]? = some o) (ho : o.isCells = false) (hD : w.heap.size ≤ D) : PR w f hi lo e (W.putObj D o') := by
 have hg := grownBy_putObj' W D o'
 have hr : ∀ r,some D = some r → w.heap.size ≤ r ∧ ∃ o : Obj,W.heap[r]? = some o ∧ o.isCells = false := fun r e => by cases e;exact ⟨hD,_,hK,ho⟩
 exact ⟨blk_cell (blk_kept h.r0 hg hr) h.r0,blk_cell (blk_kept h.r0 hg hr) h.r1,blk_cell (blk_kept h.r0 hg hr) h.r2,blk_cell (blk_kept h.e0 hg hr) h.e0,h.bl.grown hg h.bl.size (fun k e => (hr k e).1)⟩
theorem fourKept (W : World) (a b c d : Addr) (u v x y : Value) : KeepsOthers W ((((W.setCell a u).setCell b v).setCell c x).setCell d y) := (((KeepsOthers.setCell _ _ _).trans (KeepsOthers.setCell _ _ _)).trans (KeepsOthers.setCell _ _ _)).trans (KeepsOthers.setCell _ _ _)
theorem index_no {t : List UInt8} (h : Lib.indexByte t 58 = -1) : (58 : UInt8) ∉ t := by
 rcases index_spec 58 t with ⟨-,h2⟩ | ⟨q,h1,-⟩
 ·exact h2
 ·rw [h] at h1;omega
theorem index_yes {t : List UInt8} {q : Nat} (h : Lib.indexByte t 58 = (q : Int)) : (58 : UInt8) ∈ t := by
 rcases index_spec 58 t with ⟨h1,-⟩ | ⟨p,h1,-,h3,-⟩
 ·rw [h] at h1;omega
 ·rw [h3];simp
theorem map_some_inj : ∀ {a b : List Nat},a.map some = b.map some → a = b
 | [],[],_ => rfl
 | x :: a,y :: b,h => by
  simp only [List.map_cons] at h
  injection h with h1 h2
  injection h1 with h1
  rw [h1,map_some_inj h2]
theorem map_v16 (l : List Nat) (h : ∀ d ∈ l,d < 65536) : (l.map hex4).map v16 = l.map some := by
 rw [List.map_map]
 exact List.map_congr_left fun d hd => v16_hex4 d (h d hd)
theorem map_v8 (l : List Nat) (h : ∀ d ∈ l,d < 256) : (l.map decDigits).map v8 = l.map some := by
 rw [List.map_map]
 exact List.map_congr_left fun d hd => v8_dec d (h d hd)
/-- which address a text with a colon, without one says -/
theorem fam6 {t : List UInt8} (hc : (58 : UInt8) ∈ t) {f : Int} {n : Nat} (h : okA f n = true) (e : prA f n = t) : f = 6 ∧ n < 340282366920938463463374607431768211456 ∧ split 58 t = (dgs 65536 8 n).map hex4 := by
 rcases (okA_iff f n).1 h with ⟨rfl,hn⟩ | ⟨rfl,hn⟩
 ·exact ⟨rfl,hn,by rw [← e];exact split_6 n hn⟩
 ·exact absurd (e ▸ hc) (no_colon_4 n hn)
theorem fam4 {t : List UInt8} (hc : (58 : UInt8) ∉ t) {f : Int} {n : Nat} (h : okA f n = true) (e : prA f n = t) : f = 4 ∧ n < 4294967296 ∧ split 46 t = (dgs 256 4 n).map decDigits := by
 rcases (okA_iff f n).1 h with ⟨rfl,hn⟩ | ⟨rfl,hn⟩
 ·exact absurd (e ▸ colon_6 n hn) hc
 ·exact ⟨rfl,hn,by rw [← e];exact split_4 n hn⟩
theorem bad6 {t : List UInt8} (hc : (58 : UInt8) ∈ t) {pre : List (List UInt8)} (hp : pre <+: split 58 t) (hB : Bad v16 8 pre) : prsA t = none := by
 refine prsA_none fun f n h e => ?_
 obtain ⟨rfl,hn,hs⟩ := fam6 hc h e
 rw [hs] at hp
 have hl := hp.length_le
 rw [List.length_map,dgs_len] at hl
 obtain ⟨p,x,rfl,hx | hx⟩ := hB
 ·have : x ∈ (dgs 65536 8 n).map hex4 := hp.subset (by simp)
  obtain ⟨d,hd,rfl⟩ := List.mem_map.1 this
  rw [v16_hex4 d (dgs_lt 65536 8 (by omega) n d hd)] at hx
  cases hx
 ·omega
theorem bad4 {t : List UInt8} (hc : (58 : UInt8) ∉ t) {pre : List (List UInt8)} (hp : pre <+: split 46 t) (hB : Bad v8 4 pre) : prsA t = none := by
 refine prsA_none fun f n h e => ?_
 obtain ⟨rfl,hn,hs⟩ := fam4 hc h e
 rw [hs] at hp
 have hl := hp.length_le
 rw [List.length_map,dgs_len] at hl
 obtain ⟨p,x,rfl,hx | hx⟩ := hB
 ·have : x ∈ (dgs 256 4 n).map decDigits := hp.subset (by simp)
  obtain ⟨d,hd,rfl⟩ := List.mem_map.1 this
  rw [v8_dec d (dgs_lt 256 4 (by omega) n d hd)] at hx
  cases hx
 ·omega
theorem good6_lt {t : List UInt8} {N : Nat} (hG : Good v16 65536 8 (split 58 t) N) : N < 340282366920938463463374607431768211456 :=
 Nat.lt_of_lt_of_le (hG.lt v16_lt) (show 65536 ^ (split 58 t).length ≤ 65536 ^ 8 from Nat.pow_le_pow_right (by omega) hG.1)
theorem good4_lt {t : List UInt8} {N : Nat} (hG : Good v8 256 4 (split 46 t) N) : N < 4294967296 :=
 Nat.lt_of_lt_of_le (hG.lt v8_lt) (show 256 ^ (split 46 t).length ≤ 256 ^ 4 from Nat.pow_le_pow_right (by omega) hG.1)
theorem good6 {t : List UInt8} (hc : (58 : UInt8) ∈ t) {N : Nat} (hG : Good v16 65536 8 (split 58 t) N) :
  prsA t = if prT 6 (N / 18446744073709551616) (N % 18446744073709551616) = t then some (6,N) else none := by
 have hN := good6_lt hG
 have e1 : prT 6 (N / 18446744073709551616) (N % 18446744073709551616) = prA 6 N := by
  rw [prT_yes (by simp [vA])]
  congr 1
  simp [num]
  omega
 have ho : okA 6 N = true := (okA_iff 6 N).2 (.inl ⟨rfl,hN⟩)
 rw [e1]
 split
 ·rename_i h
  rw [← h]
  exact prsA_prt ho
 ·rename_i hne
  refine prsA_none fun f n h e => ?_
  obtain ⟨rfl,hn,hs⟩ := fam6 hc h e
  obtain ⟨-,ds,h1,h2⟩ := hG
  rw [hs,map_v16 _ (dgs_lt 65536 8 (by omega) n)] at h1
  rw [← map_some_inj h1,ofD_dgs 65536 8 n hn] at h2
  exact hne (h2 ▸ e)
theorem good4 {t : List UInt8} (hc : (58 : UInt8) ∉ t) {N : Nat} (hG : Good v8 256 4 (split 46 t) N) :
  prsA t = if prT 4 (N / 18446744073709551616) (N % 18446744073709551616) = t then some (4,N) else none := by
 have hN := good4_lt hG
 have e1 : prT 4 (N / 18446744073709551616) (N % 18446744073709551616) = prA 4 N := by
  rw [prT_yes (by simp [vA];omega)]
  congr 1
  simp [num]
  omega
 have ho : okA 4 N = true := (okA_iff 4 N).2 (.inr ⟨rfl,hN⟩)
 rw [e1]
 split
 ·rename_i h
  rw [← h]
  exact prsA_prt ho
 ·rename_i hne
  refine prsA_none fun f n h e => ?_
  obtain ⟨rfl,hn,hs⟩ := fam4 hc h e
  obtain ⟨-,ds,h1,h2⟩ := hG
  rw [hs,map_v8 _ (dgs_lt 256 4 (by omega) n)] at h1
  rw [← map_some_inj h1,ofD_dgs 256 4 n hn] at h2
  exact hne (h2 ▸ e)
end Go.Proofs.YtpkmekdpmkfcdaaGreatDoor.Pf
