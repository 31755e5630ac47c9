/- Words for memory, over any program: a list of bytes that a slice shows, and what leaves it alone. No statement of the seat is in sight. -/
import Derived.Below
import Derived.WalkKit
import Derived.WalkSmall
import Derived.Laws.OwnMore
import Derived.Deep.AppendLies
import Derived.Deep.Draws
namespace Go.Proofs.YtpkmekdpmkfcdaaGreatDoor.Wd
open Go.RowKit
/-- a byte as a cell -/
def cel (c : UInt8) : Value := .int .u8 (c.toNat : Int)
/-- the slice value '.slice A l.length _' shows the cells 'l.map f', and lies below block B -/
def Shows {α : Type} (f : α → Value) (w : World) (B : Nat) (A : Option Addr) (l : List α) : Prop :=
 0 < l.length → ∃ b o,A = some ⟨b,o,none⟩ ∧ b < B ∧ ∀ i x,l[i]? = some x → w.cell? ⟨b,o + i,none⟩ = some (f x)
section
variable {α : Type} {f : α → Value} {w w' : World} {B B' : Nat} {A : Option Addr} {l : List α}
theorem Shows.nil : Shows f w B A ([] : List α) := fun h => absurd h (by simp)
theorem Shows.at_ (h : Shows f w B A l) {i : Nat} (hi : i < l.length) : ∃ b o,A = some ⟨b,o,none⟩ ∧ b < B ∧ w.cell? ⟨b,o + i,none⟩ = some (f l[i]) := by
 obtain ⟨b,o,hA,hb,hc⟩ := h (by omega)
 exact ⟨b,o,hA,hb,hc i _ (List.getElem?_eq_getElem hi)⟩
theorem Shows.below (h : Shows f w B A l) (hb : Below B w w') : Shows f w' B A l := fun hl => by
 obtain ⟨b,o,hA,hB,hc⟩ := h hl
 exact ⟨b,o,hA,hB,fun i x hx => (hb.cell (p := ⟨b,o + i,none⟩) hB).trans (hc i x hx)⟩
theorem Shows.more (h : Shows f w B A l) (hB : B ≤ B') : Shows f w B' A l := fun hl => by
 obtain ⟨b,o,hA,hb,hc⟩ := h hl
 exact ⟨b,o,hA,by omega,hc⟩
/-- in the world behind a call that turned nothing below its own heap -/
theorem Shows.on (h : Shows f w w.heap.size A l) (hb : Below w.heap.size w w') : Shows f w' w'.heap.size A l := (h.below hb).more hb.size
theorem Shows.of_own {base c : Nat} {e : TypeId} (h : w.ownsRow base e 1 (.slice A l.length c) l.length (l.map f)) : Shows f w w.heap.size A l := fun hl => by
 obtain ⟨g,cap,hv,_,hlt⟩ := h.form hl
 have hA : A = some ⟨g,0,none⟩ := by injection hv
 subst hA
 refine ⟨g,0,rfl,hlt,fun i x hx => ?_⟩
 have := h.cells (g := g) rfl i (f x) (by rw [List.getElem?_map,hx];rfl)
 rw [Nat.zero_add]
 have e0 : (⟨g,0,none⟩ : Addr).add i = ⟨g,i,none⟩ := by
  unfold Addr.add
  split
  ·rename_i h0;subst h0;rfl
  ·simp
 rw [e0] at this
 exact this
end
/-- a cell known before a call is known behind it -/
theorem keepc {W w1 : World} (hb : Below W.heap.size W w1) {b o : Nat} {v : Value} (h : W.cell? ⟨b,o,none⟩ = some v) : w1.cell? ⟨b,o,none⟩ = some v :=
 (hb.cell (p := ⟨b,o,none⟩) (World.block_lt_of_cell? W _ h)).trans h
theorem keepf {W w1 : World} (hb : Below W.heap.size W w1) {b : Nat} (hlt : b < W.heap.size) (h : ∀ o,W.frozen? ⟨b,o,none⟩ = false) : ∀ o,w1.frozen? ⟨b,o,none⟩ = false :=
 fun o => (hb.frozen (p := ⟨b,o,none⟩) hlt).trans (h o)
/-- a new block's cells, one by one -/
theorem cells_new (w : World) (cs : Array Value) (t : TypeId) : ∀ j u,cs.toList[j]? = some u → (w.alloc (.cells cs t)).cell? ((⟨w.heap.size,0,none⟩ : Addr).add j) = some u := by
 intro j u hu
 have e0 : (⟨w.heap.size,0,none⟩ : Addr).add j = ⟨w.heap.size,j,none⟩ := by
  unfold Addr.add
  split
  ·rename_i h0;subst h0;rfl
  ·simp
 rw [e0,World.cell?_alloc_at _ _ _ _ rfl]
 simpa using hu
theorem own_cap {w : World} {base n c : Nat} {A : Option Addr} {e : TypeId} {xs : List Value} (h : w.ownsRow base e 1 (.slice A n c) n xs) : n ≤ c ∧ c ≤ maxLen := by
 rcases h.2 with ⟨h1,rfl⟩ | ⟨g,cap,cur,hv,_,_,h3,h4,_⟩
 ·injection h1 with _ _ h1;subst h1;exact ⟨Nat.le_refl _,by unfold maxLen;omega⟩
 ·injection hv with _ _ h1;subst h1;exact ⟨h3,h4⟩
/-- owned from a block on, owned from a lower one on -/
theorem own_base {w : World} {base base' : Nat} {e : TypeId} {size n : Nat} {v : Value} {xs : List Value} (h : w.ownsRow base e size v n xs) (hb : base' ≤ base) : w.ownsRow base' e size v n xs := by
 obtain ⟨h1,h2⟩ := h
 refine ⟨h1,?_⟩
 rcases h2 with h2 | ⟨g,cap,cur,hv,hg,r⟩
 ·exact .inl h2
 ·exact .inr ⟨g,cap,cur,hv,by omega,r⟩
/-- an owned row behind a call that turned nothing below its own heap -/
theorem own_on {w w' : World} {base : Nat} {e : TypeId} {size n : Nat} {v : Value} {xs : List Value} (h : w.ownsRow base e size v n xs) (hb : Below w.heap.size w w') : w'.ownsRow base e size v n xs := by
 have hlt := h.lt
 obtain ⟨h1,h2⟩ := h
 refine ⟨h1,?_⟩
 rcases h2 with h2 | ⟨g,cap,cur,hv,hg,hh,r⟩
 ·exact .inl h2
 ·exact .inr ⟨g,cap,cur,hv,hg,(hb.block g (hlt g (by rw [hv];rfl)).2).trans hh,r⟩
theorem take_map {α β : Type} (f : α → β) (l : List α) (k : Nat) (h : k < l.length) : (l.map f).take (k + 1) = (l.map f).take k ++ [f l[k]] := by
 rw [List.take_succ_eq_append_getElem (by simpa using h),List.getElem_map]
theorem ret_int {k : IntKind} {a b : Int} (h : a = b) : Ending.returned (.int k a) = .returned (.int k b) := by rw [h]
theorem ret_bool {a b : Bool} (h : a = b) : Ending.returned (.bool a) = .returned (.bool b) := by rw [h]
end Go.Proofs.YtpkmekdpmkfcdaaGreatDoor.Wd
