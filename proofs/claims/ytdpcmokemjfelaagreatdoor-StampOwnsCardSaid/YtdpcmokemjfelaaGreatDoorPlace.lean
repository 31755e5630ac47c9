/- The walk of StampPlace. -/
import Derived.Test.YtdpcmokemjfelaaGreatDoorStampK
import Derived.Deep.RegionHeld
import Derived.Deep.DeepCutAuto
import Derived.StillTailTactics
import Derived.Laws.BitsAllLaws
namespace Go.Proofs.YtdpcmokemjfelaaGreatDoor.St
open Go.RowKit Go.Proofs.YtdpcmokemjfelaaGreatDoor.Wd Go.Proofs.YtdpcmokemjfelaaGreatDoor.Pl Go.Proofs.YtdpcmokemjfelaaGreatDoor.Px Go.Proofs.YtdpcmokemjfelaaGreatDoor.En Go.Proofs.YtdpcmokemjfelaaGreatDoor.By

/-- stamps as a slice shows them -/
def ShowsS (w : World) (A : Option Addr) (l : List (Int × Int)) : Prop :=
  0 < l.length → ∃ b o, A = some ⟨b, o, none⟩ ∧ b < w.heap.size ∧ ∀ i p, l[i]? = some p → w.cell? ⟨b, o + i * 2, none⟩ = some (.int .i64 p.1) ∧ w.cell? ⟨b, o + i * 2 + 1, none⟩ = some (.int .i64 p.2)
theorem ShowsS.at_ {w w' : World} {A : Option Addr} {l : List (Int × Int)} (h : ShowsS w A l) (hb : Below w.heap.size w w') {i : Nat} (hi : i < l.length) :
    ∃ b o, A = some ⟨b, o, none⟩ ∧ b < w.heap.size ∧ w'.cell? ⟨b, o + i * 2, none⟩ = some (.int .i64 l[i].1) ∧ w'.cell? ⟨b, o + i * 2 + 1, none⟩ = some (.int .i64 l[i].2) := by
  obtain ⟨b, o, hA, hlt, hc⟩ := h (by omega)
  obtain ⟨h1, h2⟩ := hc i _ (List.getElem?_eq_getElem hi)
  exact ⟨b, o, hA, hlt, (hb.cell (p := ⟨b, o + i * 2, none⟩) hlt).trans h1, (hb.cell (p := ⟨b, o + i * 2 + 1, none⟩) hlt).trans h2⟩

/-- a block that holds these bytes, and may be written -/
structure Room (w : World) (R : Nat) (r : List UInt8) : Prop where
  lt : R < w.heap.size
  cells : ∀ i x, r[i]? = some x → w.cell? ⟨R, i, none⟩ = some (cel x)
  open_ : ∀ o, w.frozen? ⟨R, o, none⟩ = false
theorem Room.on {w w' : World} {R : Nat} {r : List UInt8} (h : Room w R r) (hb : Below w.heap.size w w') : Room w' R r :=
  ⟨Nat.lt_of_lt_of_le h.lt hb.size, fun i x hi => (hb.cell (p := ⟨R, i, none⟩) h.lt).trans (h.cells i x hi), fun o => (hb.frozen (p := ⟨R, o, none⟩) h.lt).trans (h.open_ o)⟩
theorem Room.other {w : World} {R : Nat} {r : List UInt8} (h : Room w R r) {a : Addr} (ha : a.block ≠ R) (v : Value) : Room (w.setCell a v) R r :=
  ⟨by simpa using h.lt, fun i x hi => (World.cell?_setCell_far w a ⟨R, i, none⟩ v ha).trans (h.cells i x hi), fun o => by rw [World.frozen?_setCell]; exact h.open_ o⟩
theorem Room.alloc {w : World} {R : Nat} {r : List UInt8} (h : Room w R r) (o : Obj) : Room (w.alloc o) R r := h.on (one w o)
theorem Room.drew {w : World} {R : Nat} {r : List UInt8} (h : Room w R r) : Room w.drew R r := h.on (Below.refl _ _).drew
theorem Room.cel {w : World} {R : Nat} {r : List UInt8} (h : Room w R r) {i : Nat} (hi : i < r.length) : w.cell? ⟨R, i, none⟩ = some (cel r[i]) := h.cells i _ (List.getElem?_eq_getElem hi)
theorem Room.put {w : World} {R : Nat} {r : List UInt8} (h : Room w R r) {i : Nat} (hi : i < r.length) (x : UInt8) {v : Value} (hv : v = Wd.cel x) : Room (w.setCell ⟨R, i, none⟩ v) R (r.set i x) := by
  subst hv
  refine ⟨by simpa using h.lt, fun j y hj => ?_, fun o => by rw [World.frozen?_setCell]; exact h.open_ o⟩
  rw [List.getElem?_set] at hj
  split at hj
  · rename_i e
    subst e
    first
      | (rw [if_pos hi] at hj; injection hj with hj; subst hj; exact World.cell?_setCell_same _ _ (h.cel hi))
      | (injection hj with hj; subst hj; exact World.cell?_setCell_same' _ _ _ (by rw [h.cel hi]; rfl))
  · rename_i e
    exact (World.cell?_setCell_other _ _ _ _ (fun e2 => by injection e2 with _ e3; exact e e3)).trans (h.cells j y hj)
theorem Room.shows {w : World} {R : Nat} {r l : List UInt8} (h : Room w R r) (hl : ∃ m, r = l ++ m) : Shows Wd.cel w w.heap.size (some ⟨R, 0, none⟩) l := by
  obtain ⟨m, rfl⟩ := hl
  refine fun hp => ⟨R, 0, rfl, h.lt, fun i x hx => ?_⟩
  rw [Nat.zero_add]
  refine h.cells i x ?_
  rw [List.getElem?_append_left (List.getElem?_eq_some_iff.1 hx).1]
  exact hx
/-- the copying, a byte further -/
theorem copy_step {x r : List UInt8} {q : Nat} (hq : q < x.length) (hr : x.length ≤ r.length) : (x.take q ++ r.drop q).set q x[q] = x.take (q + 1) ++ r.drop (q + 1) := by
  have h1 : (x.take q).length = q := by rw [List.length_take]; omega
  rw [List.set_append_right _ _ (by omega), h1, Nat.sub_self, List.drop_eq_getElem_cons (by omega : q < r.length), List.set_cons_zero, List.take_succ_eq_append_getElem hq, List.append_assoc]
  rfl
theorem byte_of (z : Int) (h0 : 0 ≤ z) (h1 : z < 256) : ∃ y : UInt8, .int .u8 z = cel y := by
  refine ⟨UInt8.ofNat z.toNat, ?_⟩
  unfold cel
  rw [UInt8.toNat_ofNat', Nat.mod_eq_of_lt (by omega)]
  congr 1
  omega
theorem zeros15 (w : World) (t : TypeId) : Room (w.alloc (.cells #[.int .u8 0, .int .u8 0, .int .u8 0, .int .u8 0, .int .u8 0, .int .u8 0, .int .u8 0, .int .u8 0, .int .u8 0, .int .u8 0, .int .u8 0, .int .u8 0, .int .u8 0, .int .u8 0, .int .u8 0] t)) w.heap.size (List.replicate 15 0) := by
  rw [show (#[.int .u8 0, .int .u8 0, .int .u8 0, .int .u8 0, .int .u8 0, .int .u8 0, .int .u8 0, .int .u8 0, .int .u8 0, .int .u8 0, .int .u8 0, .int .u8 0, .int .u8 0, .int .u8 0, .int .u8 0] : Array Value) = Array.replicate 15 (.int .u8 0) from rfl]
  refine ⟨by simp, fun i x hi => ?_, fun o => by rw [World.frozen?_alloc_at _ _ _ _ rfl]⟩
  have hlt := (List.getElem?_eq_some_iff.1 hi).1
  rw [List.length_replicate] at hlt
  rw [List.getElem?_replicate, if_pos hlt] at hi
  injection hi with hi
  subst hi
  rw [World.cell?_alloc_at _ _ _ _ rfl]
  simp [hlt]
  rfl
/-- bytes that a block holds from its first cell on -/
def Holds8 (w : World) (g : Nat) (x : List UInt8) : Prop := ∀ i y, x[i]? = some y → w.cell? ⟨g, i, none⟩ = some (cel y)
theorem Holds8.other {w : World} {g : Nat} {x : List UInt8} (h : Holds8 w g x) {a : Addr} (ha : a.block ≠ g) (v : Value) : Holds8 (w.setCell a v) g x := fun i y hi => (World.cell?_setCell_far w a ⟨g, i, none⟩ v ha).trans (h i y hi)
theorem get12_is {l : List UInt8} {x y k : Int} (hl : l.length = 12) (hG : Gets l x y k) (A : Option Addr) (c : Nat) (w : World) (ha : Shows cel w w.heap.size A l) :
    Calls Tryz.prog 12 #[.slice A 12 c] w fun e w' => e = .returned (.tuple #[.agg #[.int .i64 x, .int .i64 y], .int .i64 k]) ∧ Below w.heap.size w w' := by
  have := get_as hG A c w ha
  rwa [hl] at this
theorem xor_byte (y : Int) (h0 : 0 ≤ y) (h1 : y < 256) : ∃ b : UInt8, .int .u8 (bits .xor .u8 y 128) = cel b := by
  rw [u8_xor y 128 h0 h1 (by omega) (by omega)]
  have := Nat.xor_lt_two_pow (x := y.toNat) (y := (128 : Int).toNat) (n := 8) (by omega) (by decide)
  exact byte_of _ (by omega) (by omega)

end Go.Proofs.YtdpcmokemjfelaaGreatDoor.St
