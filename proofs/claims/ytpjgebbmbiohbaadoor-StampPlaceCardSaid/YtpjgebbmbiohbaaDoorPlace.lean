/- The walk of StampPlace. -/
import Derived.Test.YtpjgebbmbiohbaaDoorStampK
import Derived.Deep.RegionHeld
import Derived.Deep.DeepCutAuto
import Derived.StillTailTactics
import Derived.Laws.BitsAllLaws
namespace Go.Proofs.YtpjgebbmbiohbaaDoor.St
open Go.RowKit Go.Proofs.YtpjgebbmbiohbaaDoor.Wd Go.Proofs.YtpjgebbmbiohbaaDoor.Pl Go.Proofs.YtpjgebbmbiohbaaDoor.Px Go.Proofs.YtpjgebbmbiohbaaDoor.En Go.Proofs.YtpjgebbmbiohbaaDoor.By

/-- stamps as a slice shows them -/
def ShowsS (w : World) (A : Option Addr) (l : List (Int × Int)) : Prop :=
  0 < l.length → ∃ b o, A = some ⟨b, o, none⟩ ∧ b < w.heap.size ∧ ∀ i p, l[i]? = some p → w.cell? ⟨b, o + i * 2, none⟩ = some (.int .i64 p.1) ∧ w.cell? ⟨b, o + i * 2 + 1, none⟩ = some (.int .i64 p.2)
theorem ShowsS.at_ {w w' : World} {A : Option Addr} {l : List (Int × Int)} (h : ShowsS w A l) (hb : Below w.heap.size w w') {i : Nat} (hi : i < l.length) :
    ∃ b o, A = some ⟨b, o, none⟩ ∧ b < w.heap.size ∧ w'.cell? ⟨b, o + i * 2, none⟩ = some (.int .i64 l[i].1) ∧ w'.cell? ⟨b, o + i * 2 + 1, none⟩ = some (.int .i64 l[i].2) := by
  obtain ⟨b, o, hA, hlt, hc⟩ := h (by omega)
  obtain ⟨h1, h2⟩ := hc i _ (List.getElem?_eq_getElem hi)
  exact ⟨b, o, hA, hlt, (hb.cell (p := ⟨b, o + i * 2, none⟩) hlt).trans h1, (hb.cell (p := ⟨b, o + i * 2 + 1, none⟩) hlt).trans h2⟩

/-- a block that holds these bytes, and may be written -/
structure Room (w : World) (R : Nat) (r : List UInt8) : Prop where
  lt : R < w.heap.size
  cells : ∀ i x, r[i]? = some x → w.cell? ⟨R, i, none⟩ = some (cel x)
  open_ : ∀ o, w.frozen? ⟨R, o, none⟩ = false
theorem Room.on {w w' : World} {R : Nat} {r : List UInt8} (h : Room w R r) (hb : Below w.heap.size w w') : Room w' R r :=
  ⟨Nat.lt_of_lt_of_le h.lt hb.size, fun i x hi => (hb.cell (p := ⟨R, i, none⟩) h.lt).trans (h.cells i x hi), fun o => (hb.frozen (p := ⟨R, o, none⟩) h.lt).trans (h.open_ o)⟩
theorem Room.other {w : World} {R : Nat} {r : List UInt8} (h : Room w R r) {a : Addr} (ha : a.block ≠ R) (v : Value) : Room (w.setCell a v) R r :=
  ⟨by simpa using h.lt, fun i x hi => (World.cell?_setCell_far w a ⟨R, i, none⟩ v ha).trans (h.cells i x hi), fun o => by rw [World.frozen?_setCell]; exact h.open_ o⟩
theorem Room.alloc {w : World} {R : Nat} {r : List UInt8} (h : Room w R r) (o : Obj) : Room (w.alloc o) R r := h.on (one w o)
theorem Room.drew {w : World} {R : Nat} {r : List UInt8} (h : Room w R r) : Room w.drew R r := h.on (Below.refl _ _).drew
theorem Room.cel {w : World} {R : Nat} {r : List UInt8} (h : Room w R r) {i : Nat} (hi : i < r.length) : w.cell? ⟨R, i, none⟩ = some (cel r[i]) := h.cells i _ (List.getElem?_eq_getElem hi)
theorem Room.put {w : World} {R : Nat} {r : List UInt8} (h : Room w R r) {i : Nat} (hi : i < r.length) (x : UInt8) {v : Value} (hv : v = Wd.cel x) : Room (w.setCell ⟨R, i, none⟩ v) R (r.set i x) := by
  subst hv
  refine ⟨by simpa using h.lt, fun j y hj => ?_, fun o => by rw [World.frozen?_setCell]; exact h.open_ o⟩
  rw [List.getElem?_set] at hj
  split at hj
  · rename_i e
    subst e
    first
      | (rw [if_pos hi] at hj; injection hj with hj; subst hj; exact World.cell?_setCell_same _ _ (h.cel hi))
      | (injection hj with hj; subst hj; exact World.cell?_setCell_same' _ _ _ (by rw [h.cel hi]; rfl))
  · rename_i e
    exact (World.cell?_setCell_other _ _ _ _ (fun e2 => by injection e2 with _ e3; exact e e3)).trans (h.cells j y hj)
theorem Room.shows {w : World} {R : Nat} {r l : List UInt8} (h : Room w R r) (hl : ∃ m, r = l ++ m) : Shows Wd.cel w w.heap.size (some ⟨R, 0, none⟩) l := by
  obtain ⟨m, rfl⟩ := hl
  refine fun hp => ⟨R, 0, rfl, h.lt, fun i x hx => ?_⟩
  rw [Nat.zero_add]
  refine h.cells i x ?_
  rw [List.getElem?_append_left (List.getElem?_eq_some_iff.1 hx).1]
  exact hx
/-- the copying, a byte further -/
theorem copy_step {x r : List UInt8} {q : Nat} (hq : q < x.length) (hr : x.length ≤ r.length) : (x.take q ++ r.drop q).set q x[q] = x.take (q + 1) ++ r.drop (q + 1) := by
  have h1 : (x.take q).length = q := by rw [List.length_take]; omega
  rw [List.set_append_right _ _ (by omega), h1, Nat.sub_self, List.drop_eq_getElem_cons (by omega : q < r.length), List.set_cons_zero, List.take_succ_eq_append_getElem hq, List.append_assoc]
  rfl
theorem byte_of (z : Int) (h0 : 0 ≤ z) (h1 : z < 256) : ∃ y : UInt8, .int .u8 z = cel y := by
  refine ⟨UInt8.ofNat z.toNat, ?_⟩
  unfold cel
  rw [UInt8.toNat_ofNat', Nat.mod_eq_of_lt (by omega)]
  congr 1
  omega
theorem zeros15 (w : World) (t : TypeId) : Room (w.alloc (.cells #[.int .u8 0, .int .u8 0, .int .u8 0, .int .u8 0, .int .u8 0, .int .u8 0, .int .u8 0, .int .u8 0, .int .u8 0, .int .u8 0, .int .u8 0, .int .u8 0, .int .u8 0, .int .u8 0, .int .u8 0] t)) w.heap.size (List.replicate 15 0) := by
  rw [show (#[.int .u8 0, .int .u8 0, .int .u8 0, .int .u8 0, .int .u8 0, .int .u8 0, .int .u8 0, .int .u8 0, .int .u8 0, .int .u8 0, .int .u8 0, .int .u8 0, .int .u8 0, .int .u8 0, .int .u8 0] : Array Value) = Array.replicate 15 (.int .u8 0) from rfl]
  refine ⟨by simp, fun i x hi => ?_, fun o => by rw [World.frozen?_alloc_at _ _ _ _ rfl]⟩
  have hlt := (List.getElem?_eq_some_iff.1 hi).1
  rw [List.length_replicate] at hlt
  rw [List.getElem?_replicate, if_pos hlt] at hi
  injection hi with hi
  subst hi
  rw [World.cell?_alloc_at _ _ _ _ rfl]
  simp [hlt]
  rfl
/-- bytes that a block holds from its first cell on -/
def Holds8 (w : World) (g : Nat) (x : List UInt8) : Prop := ∀ i y, x[i]? = some y → w.cell? ⟨g, i, none⟩ = some (cel y)
theorem Holds8.other {w : World} {g : Nat} {x : List UInt8} (h : Holds8 w g x) {a : Addr} (ha : a.block ≠ g) (v : Value) : Holds8 (w.setCell a v) g x := fun i y hi => (World.cell?_setCell_far w a ⟨g, i, none⟩ v ha).trans (h i y hi)
theorem get12_is {l : List UInt8} {x y k : Int} (hl : l.length = 12) (hG : Gets l x y k) (A : Option Addr) (c : Nat) (w : World) (ha : Shows cel w w.heap.size A l) :
    Calls Tryd.prog 27 #[.slice A 12 c] w fun e w' => e = .returned (.tuple #[.agg #[.int .i64 x, .int .i64 y], .int .i64 k]) ∧ Below w.heap.size w w' := by
  have := get_as hG A c w ha
  rwa [hl] at this
theorem rget12_is {l : List UInt8} {x y k : Int} (hl : l.length = 12) (hG : Gets l x y k) (A : Option Addr) (c : Nat) (w : World) (ha : Shows cel w w.heap.size A l) :
    Calls Tryd.prog 28 #[.slice A 12 c] w fun e w' => e = .returned (.tuple #[.agg #[.int .i64 x, .int .i64 y], .int .i64 k]) ∧ Below w.heap.size w w' := by
  have := rget_any l A c w ha
  obtain ⟨rfl, rfl, rfl⟩ := hG
  rwa [hl] at this
theorem xor_byte (y : Int) (h0 : 0 ≤ y) (h1 : y < 256) : ∃ b : UInt8, .int .u8 (bits .xor .u8 y 128) = cel b := by
  rw [u8_xor y 128 h0 h1 (by omega) (by omega)]
  have := Nat.xor_lt_two_pow (x := y.toNat) (y := (128 : Int).toNat) (n := 8) (by omega) (by decide)
  exact byte_of _ (by omega) (by omega)

set_option maxRecDepth 20000 in
set_option maxHeartbeats 4000000 in
theorem stampPlace_law (l : List (Int × Int)) (A : Option Addr) (c : Nat) (at_ : Int) (w : World) (hE : Env w) (hA : ShowsS w A l) (hb1 : ∀ p ∈ l, p.1 ≤ 9223372036854775807) :
    Calls Tryd.prog 12 #[.slice A l.length c, .int .i64 at_] w fun e w' => e = .returned (.bool true) ∧ Below w.heap.size w w' := by
  obtain ⟨m0, hm0⟩ : ∃ m, at_.tmod 12 = m := ⟨_, rfl⟩
  have hm1 := Int.natAbs_tmod at_ 12
  have hm2 : at_.natAbs % (12 : Int).natAbs < 12 := Nat.mod_lt _ (by decide)
  rw [hm0] at hm1
  obtain ⟨q, hq⟩ : ∃ q : Nat, (m0 + 12).tmod 12 = (q : Int) := ⟨((m0 + 12).tmod 12).toNat, by have := Int.tmod_nonneg (a := m0 + 12) 12 (by omega); omega⟩
  have hq2 : q < 12 := by
    have h1 := Int.natAbs_tmod (m0 + 12) 12
    have h2 : (m0 + 12).natAbs % (12 : Int).natAbs < 12 := Nat.mod_lt _ (by decide)
    rw [hq] at h1
    omega
  have hm3 : -12 < m0 ∧ m0 < 12 := by omega
  obtain ⟨hm4, hm5⟩ := hm3
  clear hm1 hm2
  have hmk : ∀ w : World, (Instr.makeSlice 29 (.int .i64 15) (.int .i64 15)).run Tryd.prog w = .ok (.slice (some ⟨w.heap.size, 0, none⟩) 15 15) (w.alloc (.cells #[.int .u8 0, .int .u8 0, .int .u8 0, .int .u8 0, .int .u8 0, .int .u8 0, .int .u8 0, .int .u8 0, .int .u8 0, .int .u8 0, .int .u8 0, .int .u8 0, .int .u8 0, .int .u8 0, .int .u8 0] 5)) := fun _ => by kernel_rfl
  go_enter Tryd.func12, Tryd.ntmps12
  go_wp2_with fail
  refine (known_any _ hE).mono ?_
  rintro e w1 ⟨rfl, hb1_⟩
  have hR0 := zeros15 w1 5
  have hbl0 := hb1_.alloc hb1_.size (.cells #[.int .u8 0, .int .u8 0, .int .u8 0, .int .u8 0, .int .u8 0, .int .u8 0, .int .u8 0, .int .u8 0, .int .u8 0, .int .u8 0, .int .u8 0, .int .u8 0, .int .u8 0, .int .u8 0, .int .u8 0] 5)
  have hRb := hb1_.size
  clear hb1_
  go_wp2
  clear hmk
  generalize w1.alloc (.cells #[.int .u8 0, .int .u8 0, .int .u8 0, .int .u8 0, .int .u8 0, .int .u8 0, .int .u8 0, .int .u8 0, .int .u8 0, .int .u8 0, .int .u8 0, .int .u8 0, .int .u8 0, .int .u8 0, .int .u8 0] 5) = w2 at hR0 hbl0 ⊢
  generalize w1.heap.size = R at hR0 hRb ⊢
  go_loopw [6] (fun i wr => ∃ (k : Nat) (r : List UInt8), k ≤ l.length ∧ k ≤ 60 ∧ i = .int .i64 k ∧ r.length = 15 ∧ Room wr R r ∧ Below w.heap.size w wr) (fun i _ => l.length - (intOf i).toNat)
  case atStart => exact ⟨0, _, Nat.zero_le _, Nat.zero_le _, rfl, List.length_replicate .., hR0, hbl0⟩
  case round =>
    obtain ⟨k, r, hk, hk6, rfl, hr, hR, hbl⟩ := hrel
    have HR := Lib.hid hr
    clear hr hR0 hbl0
    by_cases hlt : k < l.length
    · by_cases hlt6 : k < 60
      · obtain ⟨b, o, rfl, hbW, hc1, hc2⟩ := hA.at_ hbl hlt
        have hs := hb1 _ (List.getElem_mem hlt)
        obtain ⟨s, hs1⟩ : ∃ s, l[k].1 = s := ⟨_, rfl⟩
        obtain ⟨n, hn1⟩ : ∃ n, l[k].2 = n := ⟨_, rfl⟩
        rw [hs1] at hc1 hs
        rw [hn1] at hc2
        have HS1 := Lib.hid hs1
        have HN1 := Lib.hid hn1
        clear hs1 hn1
        have i1 : (k : Int) < (l.length : Int) := by omega
        have i2 : (k : Int) < 60 := by omega
        cases hv : vld s n with
        | false =>
          have HV := Lib.hid hv
          clear hv
          go_wp2_with fail
          refine (rput_no s n _ HV.out).mono ?_
          rintro e w3 ⟨rfl, hb3⟩
          have hR3 := hR.on hb3
          have hbl3 := hbl.trans (hb3.mono hbl.size)
          clear hb3 hc1 hc2 hR hbl
          go_wp2
          go_roundw
          case rel => exact ⟨k + 1, r, by omega, by omega, by go_num, HR.out, hR3, hbl3⟩
          case measure => simp [intOf]; omega
        | true =>
          obtain ⟨hv1, hv2, hv3⟩ := (vld_iff s n).1 hv
          have hx := lb_len hv
          have hG := gets_lb hv hs
          obtain ⟨x, hxl⟩ : ∃ x, lb s n = x := ⟨_, rfl⟩
          have hxe := lb_yes hv
          rw [hxl] at hx hG hxe
          have HX := Lib.hid hx
          have HXE := Lib.hid hxe
          clear hx hxe hxl hv
          go_wp2_with fail
          refine (rput_yes s n _ hv1 hs hv2 hv3).mono ?_
          rintro e w3 ⟨v, rfl, hown, hb3⟩
          rw [← HXE.out] at hown
          obtain ⟨g, cap, hv', hgb, hgl⟩ := hown.form (by omega)
          obtain rfl := hv'
          have hX3 : Holds8 w3 g x := fun i y hi => by
            have := hown.cellAt i (by have := (List.getElem?_eq_some_iff.1 hi).1; rw [HX.out] at this; exact this)
            rw [this, List.getElem?_map, hi]
            rfl
          have hR3 := hR.on hb3
          have hbl3 := hbl.trans (hb3.mono hbl.size)
          have hgR : R ≠ g := by have := hR.lt; omega
          clear hown hb3 hc1 hc2 hR hbl
          go_wp2
          go_loopw [8] (fun j wi => ∃ p : Nat, p ≤ 12 ∧ j = .int .i64 p ∧ Holds8 wi g x ∧ Room wi R (x.take p ++ r.drop p) ∧ Below w.heap.size w wi) (fun j _ => 12 - (intOf j).toNat)
          case atStart => exact ⟨0, by omega, rfl, hX3, by simpa using hR3, hbl3⟩
          case round =>
            obtain ⟨p, hp, rfl, hX, hR, hbl⟩ := hrel
            clear hX3 hR3 hbl3
            by_cases hp2 : p < 12
            · have j1 : (p : Int) < 12 := by omega
              have hpx : p < x.length := by rw [HX.out]; exact hp2
              have e1 := hX p _ (List.getElem?_eq_getElem hpx)
              have hlen : p < (x.take p ++ r.drop p).length := by
                rw [List.length_append, List.length_take, List.length_drop, HR.out]
                omega
              have e2 := hR.cel hlen
              have e3 := hR.open_ p
              have hput := hR.put hlen x[p] rfl
              rw [copy_step hpx (by rw [HX.out, HR.out]; omega)] at hput
              obtain ⟨y, hy⟩ : ∃ y : Int, .int .u8 y = cel x[p] := ⟨_, rfl⟩
              obtain ⟨z, hz⟩ : ∃ z : Int, .int .u8 z = cel (x.take p ++ r.drop p)[p] := ⟨_, rfl⟩
              rw [← hy] at e1 hput
              rw [← hz] at e2
              have hX5 := hX.other (a := ⟨R, p, none⟩) hgR (.int .u8 y)
              have hbl5 := hbl.setCell (p := ⟨R, p, none⟩) hRb (.int .u8 y)
              clear hy hz hpx hlen hX hR hbl
              go_wp2
              go_roundw
              case rel => exact ⟨p + 1, by omega, by go_num, hX5, hput, hbl5⟩
              case measure => simp [intOf]; omega
            · obtain rfl : p = 12 := by omega
              rw [List.take_of_length_le (by rw [HX.out]; omega)] at hR
              clear hp hp2 hX
              have sh := hR.shows ⟨_, rfl⟩
              go_wp2_with fail
              refine (get12_is HX.out hG _ _ _ sh).mono ?_
              rintro e w4 ⟨rfl, hb4⟩
              have hR4 := hR.on hb4
              have hbl4 := hbl.trans (hb4.mono hbl.size)
              obtain ⟨b', o', hAe, -, hc1, hc2⟩ := hA.at_ (hbl4.alloc hbl4.size (.cells #[.int .i64 s, .int .i64 n] 23)) hlt
              go_upto_region 14 with fail
              obtain ⟨rfl, rfl⟩ : b = b' ∧ o = o' := by simpa using hAe
              rw [HS1.out] at hc1
              rw [HN1.out] at hc2
              clear hAe hR hbl hb4 sh
              have hd : Below (w4.alloc (.cells #[.int .i64 s, .int .i64 n] 23)).heap.size (w4.alloc (.cells #[.int .i64 s, .int .i64 n] 23)) (w4.alloc (.cells #[.int .i64 s, .int .i64 n] 23)).drew := (Below.refl _ _).drew
              have p0 := keepc hd (b := w4.heap.size) (o := 0) (v := .int .i64 s) (by go_simp)
              have p1 := keepc hd (b := w4.heap.size) (o := 1) (v := .int .i64 n) (by go_simp)
              have fp := keepf hd (b := w4.heap.size) (by simp) (fun o => by go_simp)
              have lp : w4.heap.size < (w4.alloc (.cells #[.int .i64 s, .int .i64 n] 23)).drew.heap.size := Nat.lt_of_lt_of_le (by simp) hd.size
              have d1 := keepc hd hc1
              have d2 := keepc hd hc2
              have hR5 := (hR4.alloc (.cells #[.int .i64 s, .int .i64 n] 23)).on hd
              have hbl5 := (hbl4.alloc hbl4.size (.cells #[.int .i64 s, .int .i64 n] 23)).drew
              have hRp : w4.heap.size ≠ R := by have := hR4.lt; omega
              have hwp : w.heap.size ≤ w4.heap.size := hbl4.size
              refine wp_region_still_tail 5 (by kernel_rfl) (by kernel_rfl) ?_
              simp only [List.take_succ_cons, List.take_zero, List.drop_succ_cons, List.drop_zero]
              change wpStill _ _ (w4.alloc (.cells #[.int .i64 s, .int .i64 n] 23)).drew (fun a' => wpList _ _ _ _ a' (w4.alloc (.cells #[.int .i64 s, .int .i64 n] 23)).drew) _ _
              clear hd hc1 hc2 hR4 hbl4
              generalize (w4.alloc (.cells #[.int .i64 s, .int .i64 n] 23)).drew = wd at p0 p1 fp lp d1 d2 hR5 hbl5 ⊢
              generalize w4.heap.size = P0 at p0 p1 fp lp hRp hwp ⊢
              repeat still_step
              try refine wpStill_nil ?_
              go_wp2_with fail
              refine (sam_k s n _).mono ?_
              rintro e w6 ⟨rfl, hb6⟩
              have p0_6 := keepc hb6 p0
              have p1_6 := keepc hb6 p1
              have fp_6 := keepf hb6 lp fp
              have lp_6 := Nat.lt_of_lt_of_le lp hb6.size
              have hR6 := hR5.on hb6
              have hbl6 := hbl5.trans (hb6.mono hbl5.size)
              have hqx : q < x.length := by rw [HX.out]; exact hq2
              have hqr : q < (x ++ r.drop 12).length := by rw [List.length_append]; omega
              have c6 := hR6.cel hqr
              have f6 := hR6.open_ q
              clear p0 p1 fp lp d1 d2 hR5 hbl5 hb6
              obtain ⟨y, hy⟩ : ∃ y : Int, .int .u8 y = cel (x ++ r.drop 12)[q] := ⟨_, rfl⟩
              have hy2 : 0 ≤ y ∧ y < 256 := by
                have := ((x ++ r.drop 12)[q]).toNat_lt
                unfold cel at hy
                injection hy with _ hy
                omega
              obtain ⟨hy3, hy4⟩ := hy2
              rw [← hy] at c6
              clear hy
              have i3 : (q : Int) < 15 := by omega
              go_wp2_with (go_at_call 29; refine (num_any _ _).mono ?_; rintro e w' ⟨rfl, rfl⟩)
              obtain ⟨yb, hyb⟩ := xor_byte y hy3 hy4
              have hput := hR6.put hqr yb hyb
              rw [List.set_append_left _ _ hqx] at hput
              have hx' : (x.set q yb).length = 12 := by rw [List.length_set]; exact HX.out
              obtain ⟨x', hxx⟩ : ∃ x', x.set q yb = x' := ⟨_, rfl⟩
              rw [hxx] at hput hx'
              clear hxx hyb c6 f6 hqx hqr
              obtain ⟨s', n', e', hG'⟩ : ∃ s' n' e', Gets x' s' n' e' := ⟨_, _, _, rfl, rfl, rfl⟩
              have sh7 := hput.shows ⟨_, rfl⟩
              have p0_7 := (World.cell?_setCell_far w6 ⟨R, q, none⟩ ⟨P0, 0, none⟩ (.int .u8 (bits .xor .u8 y 128)) hRp.symm).trans p0_6
              have p1_7 := (World.cell?_setCell_far w6 ⟨R, q, none⟩ ⟨P0, 1, none⟩ (.int .u8 (bits .xor .u8 y 128)) hRp.symm).trans p1_6
              have hbl7 := hbl6.setCell (p := ⟨R, q, none⟩) hRb (.int .u8 (bits .xor .u8 y 128))
              have hR8' := hput
              refine (get12_is hx' hG' _ _ _ sh7).mono ?_
              rintro e w8 ⟨rfl, hb8⟩
              have p0_8 := keepc hb8 p0_7
              have p1_8 := keepc hb8 p1_7
              have lp_8 : P0 < w8.heap.size := Nat.lt_of_lt_of_le (by simpa using lp_6) hb8.size
              have fp_8 := keepf hb8 (by simpa using lp_6) (fun o => (World.frozen?_setCell ..).trans (fp_6 o))
              have hR8 := hput.on hb8
              have hbl8 := hbl7.trans (hb8.mono hbl7.size)
              clear p0_6 p1_6 fp_6 lp_6 hR6 hbl6 p0_7 p1_7 hbl7 hb8 hput sh7 hR8'
              have hR9 := (hR8.other (a := ⟨P0, 0, none⟩) hRp (.int .i64 s')).other (a := ⟨P0, 1, none⟩) hRp (.int .i64 n')
              have sh9 := hR9.shows ⟨_, rfl⟩
              have hbl9 := (hbl8.setCell (p := ⟨P0, 0, none⟩) hwp (.int .i64 s')).setCell (p := ⟨P0, 1, none⟩) hwp (.int .i64 n')
              go_wp2_with fail
              refine (rget12_is hx' hG' _ _ _ sh9).mono ?_
              rintro e w10 ⟨rfl, hb10⟩
              have p0_10 := keepc hb10 (b := P0) (o := 0) (v := .int .i64 s') (by go_simp)
              have p1_10 := keepc hb10 (b := P0) (o := 1) (v := .int .i64 n') (by go_simp)
              have lp_10 : P0 < w10.heap.size := Nat.lt_of_lt_of_le (by simpa using lp_8) hb10.size
              have hR10 := hR9.on hb10
              have hbl10 := hbl9.trans (hb10.mono hbl9.size)
              clear p0_8 p1_8 fp_8 lp_8 hR8 hbl8 hR9 hbl9 sh9 hb10
              go_wp2_with fail
              refine (sam_k s' n' _).mono ?_
              rintro e w11 ⟨rfl, hb11⟩
              have hR11 := (hR10.alloc (.cells #[.int .i64 s', .int .i64 n'] 23)).on hb11
              have hbl11 := (hbl10.alloc hbl10.size (.cells #[.int .i64 s', .int .i64 n'] 23)).trans (hb11.mono (by have := hbl10.size; simp; omega))
              clear p0_10 p1_10 lp_10 hR10 hbl10 hb11
              go_wp2_with (go_at_call 29; refine (num_any _ _).mono ?_; rintro e w' ⟨rfl, rfl⟩)
              go_roundw
              case rel => exact ⟨k + 1, x' ++ r.drop 12, by omega, by omega, by go_num, by rw [List.length_append, List.length_drop, hx', HR.out], hR11, hbl11⟩
              case measure => simp [intOf]; omega
      · have i2 : ¬ (k : Int) < 60 := by omega
        have i1 : (k : Int) < (l.length : Int) := by omega
        go_wp2
        go_ret
        exact ⟨rfl, hbl⟩
    · have i1 : ¬ (k : Int) < (l.length : Int) := by omega
      go_wp2
      go_ret
      exact ⟨rfl, hbl⟩
end Go.Proofs.YtpjgebbmbiohbaaDoor.St
