/- Contract: the prefix at the beginning of bytes, by the reference. -/
import Derived.Test.YtnodiejfhkjliaaGreatDoorRd
import Derived.Test.YtnodiejfhkjliaaGreatDoorRPars
namespace Go.Proofs.YtnodiejfhkjliaaGreatDoor.Pf
open Go.RowKit Go.Proofs.YtnodiejfhkjliaaGreatDoor.Wd Go.Proofs.YtnodiejfhkjliaaGreatDoor.Px Go.Proofs.YtnodiejfhkjliaaGreatDoor.By

theorem Shows.mid {w : World} {B b o : Nat} {l : List UInt8} (h : Shows cel w B (some ⟨b, o, none⟩) l) (k n : Nat) : Shows cel w B (some ⟨b, o + k, none⟩) ((l.drop k).take n) := fun hl => by
  rw [List.length_take, List.length_drop] at hl
  obtain ⟨b', o', e, hb, hc⟩ := h (by omega)
  injection e with e
  injection e with e1 e2
  subst e1 e2
  refine ⟨b, o + k, rfl, hb, fun i x hi => ?_⟩
  rw [List.getElem?_take] at hi
  split at hi
  · rw [List.getElem?_drop] at hi
    have := hc (k + i) x hi
    rwa [← Nat.add_assoc] at this
  · cases hi
theorem ks_alloc {w W : World} {b o : Nat} {y : Int} (ob : Obj) (h : W.cell? ⟨b, o, none⟩ = some (.int .u8 y) ∧ PS w W) : (W.alloc ob).cell? ⟨b, o, none⟩ = some (.int .u8 y) ∧ PS w (W.alloc ob) := ⟨keepc (one _ _) h.1, h.2.on (one _ _)⟩
theorem ks_allocd {w W : World} {b o : Nat} {y : Int} (ob : Obj) (h : W.cell? ⟨b, o, none⟩ = some (.int .u8 y) ∧ PS w W) : (W.alloc ob).drew.cell? ⟨b, o, none⟩ = some (.int .u8 y) ∧ PS w (W.alloc ob).drew := ⟨keepc (one _ _).drew h.1, h.2.on (one _ _).drew⟩
theorem ks_on {w W W' : World} {b o : Nat} {y : Int} (h : W.cell? ⟨b, o, none⟩ = some (.int .u8 y) ∧ PS w W) (hb : Below W.heap.size W W') : W'.cell? ⟨b, o, none⟩ = some (.int .u8 y) ∧ PS w W' := ⟨keepc hb h.1, h.2.on hb⟩
theorem ks_set {w W : World} {b o : Nat} {y : Int} (P : Nat) (hP : w.heap.size < P) (hb2 : b < w.heap.size) (v0 v1 v2 v3 : Value) (h : W.cell? ⟨b, o, none⟩ = some (.int .u8 y) ∧ PS w W) :
    ((((W.setCell ⟨P, 0, none⟩ v0).setCell ⟨P, 1, none⟩ v1).setCell ⟨P, 2, none⟩ v2).setCell ⟨P, 3, none⟩ v3).cell? ⟨b, o, none⟩ = some (.int .u8 y) ∧ PS w ((((W.setCell ⟨P, 0, none⟩ v0).setCell ⟨P, 1, none⟩ v1).setCell ⟨P, 2, none⟩ v2).setCell ⟨P, 3, none⟩ v3) := by
  have hB := ((((But.refl P W).set 0 v0).set 1 v1).set 2 v2).set 3 v3
  exact ⟨hB.cell (by omega) h.1, h.2.but hB hP⟩
theorem raddr_ks {w W : World} {bb oo : Nat} {y : Int} {l : List UInt8} {b o n c : Nat} {f : Int} {X Y : Nat} (h : W.cell? ⟨bb, oo, none⟩ = some (.int .u8 y) ∧ PS w W) (hsh : Shows cel w w.heap.size (some ⟨b, o, none⟩) l) (HN : Hid (l.length = n)) (hf : (n = 4 ∧ f = 4) ∨ (n = 16 ∧ f = 6)) (HX : Hid (ofB l / 18446744073709551616 = X)) (HY : Hid (ofB l % 18446744073709551616 = Y)) :
    Calls Tryz.prog 31 #[.slice (some ⟨b, o, none⟩) n c] W fun e w' => e = .returned (.agg #[.int .i64 f, .int .u64 (X : Int), .int .u64 (Y : Int)]) ∧ Below W.heap.size W w' := by
  rw [← HX.out, ← HY.out]
  exact raddr_in l _ c n f (by omega) HN (by omega) W (hsh.on h.2.bl)
theorem zb_new (w : World) (t : TypeId) : ((w.alloc (.cells #[.int .i64 0, .int .u64 0, .int .u64 0, .int .i64 0] t)).alloc (.cells #[.int .i64 0, .int .u64 0, .int .u64 0, .int .i64 0] t)).drew.cell? ⟨w.heap.size + 1, 0, none⟩ = some (.int .i64 0) ∧
    ((w.alloc (.cells #[.int .i64 0, .int .u64 0, .int .u64 0, .int .i64 0] t)).alloc (.cells #[.int .i64 0, .int .u64 0, .int .u64 0, .int .i64 0] t)).drew.cell? ⟨w.heap.size + 1, 1, none⟩ = some (.int .u64 0) ∧
    ((w.alloc (.cells #[.int .i64 0, .int .u64 0, .int .u64 0, .int .i64 0] t)).alloc (.cells #[.int .i64 0, .int .u64 0, .int .u64 0, .int .i64 0] t)).drew.cell? ⟨w.heap.size + 1, 2, none⟩ = some (.int .u64 0) ∧
    ((w.alloc (.cells #[.int .i64 0, .int .u64 0, .int .u64 0, .int .i64 0] t)).alloc (.cells #[.int .i64 0, .int .u64 0, .int .u64 0, .int .i64 0] t)).drew.cell? ⟨w.heap.size + 1, 3, none⟩ = some (.int .i64 0) ∧
    w.heap.size + 1 < ((w.alloc (.cells #[.int .i64 0, .int .u64 0, .int .u64 0, .int .i64 0] t)).alloc (.cells #[.int .i64 0, .int .u64 0, .int .u64 0, .int .i64 0] t)).drew.heap.size ∧
    ∀ o, ((w.alloc (.cells #[.int .i64 0, .int .u64 0, .int .u64 0, .int .i64 0] t)).alloc (.cells #[.int .i64 0, .int .u64 0, .int .u64 0, .int .i64 0] t)).drew.frozen? ⟨w.heap.size + 1, o, none⟩ = false :=
  ⟨by go_simp, by go_simp, by go_simp, by go_simp, by simp, fun o => by go_simp⟩
/-- the prefix told in a block of its own, the result's block zero -/
structure GF (w : World) (P : Nat) (f x y b : Int) (W : World) : Prop where
  ps : PS w W
  p0 : W.cell? ⟨P, 0, none⟩ = some (.int .i64 f)
  p1 : W.cell? ⟨P, 1, none⟩ = some (.int .u64 x)
  p2 : W.cell? ⟨P, 2, none⟩ = some (.int .u64 y)
  p3 : W.cell? ⟨P, 3, none⟩ = some (.int .i64 b)
theorem GF.new {w W : World} (h : PS w W) (f x y b : Int) (t : TypeId) : GF w W.heap.size f x y b (W.alloc (.cells #[.int .i64 f, .int .u64 x, .int .u64 y, .int .i64 b] t)) :=
  ⟨h.on (one _ _), by go_simp, by go_simp, by go_simp, by go_simp⟩
theorem GF.set {w W : World} {P : Nat} {a0 a1 a2 a3 : Value} (h : PS w W) (hP : w.heap.size < P) (p0 : W.cell? ⟨P, 0, none⟩ = some a0) (p1 : W.cell? ⟨P, 1, none⟩ = some a1) (p2 : W.cell? ⟨P, 2, none⟩ = some a2) (p3 : W.cell? ⟨P, 3, none⟩ = some a3) (f x y b : Int) :
    GF w P f x y b ((((W.setCell ⟨P, 0, none⟩ (.int .i64 f)).setCell ⟨P, 1, none⟩ (.int .u64 x)).setCell ⟨P, 2, none⟩ (.int .u64 y)).setCell ⟨P, 3, none⟩ (.int .i64 b)) :=
  ⟨h.but ((((((But.refl P W).set 0 _).set 1 _).set 2 _).set 3 _)) hP, by go_simp, by go_simp, by go_simp, by go_simp⟩
theorem rvalid_ab {f : Int} {hi lo : Nat} {b : Int} {X : Bool} (h : Hid (vP f hi lo b = X)) (w : World) (hh : hi < 18446744073709551616) (hl : lo < 18446744073709551616) :
    Calls Tryz.prog 23 #[.agg #[.int .i64 f, .int .u64 hi, .int .u64 lo, .int .i64 b]] w fun e w' => e = .returned (.bool X) ∧ Below w.heap.size w w' := rvalid_as h w hh hl
theorem rbits_as {f : Int} {n : Nat} (h : Hid (wid f = n)) (w : World) : Calls Tryz.prog 30 #[.int .i64 f] w fun e w' => e = .returned (.int .i64 (n : Int)) ∧ w' = w := by
  have := rbits_any f w
  rwa [h.out] at this
set_option maxHeartbeats 1000000 in
theorem rget_short (n c : Nat) (A : Option Addr) (w : World) (hn : n < 2) :
    Calls Tryz.prog 9 #[.slice A n c] w fun e w' => e = .returned (ofG none) ∧ Below w.heap.size w w' := by
  go_enter Tryz.func9, Tryz.ntmps9
  go_wp2
  exact bodyPost_ret (v := .tuple #[.agg #[.int .i64 0, .int .u64 0, .int .u64 0, .int .i64 0], .int .i64 0, .int .i64 70]) (by simp [results, Tryz.results9, go_sem]) rfl ⟨rfl, one _ _⟩

set_option maxHeartbeats 1000000 in
theorem rget_nofam (n c b o : Nat) (w : World) (hn : 2 ≤ n) (x : Nat) (hx : x < 256) (y0 : w.cell? ⟨b, o, none⟩ = some (.int .u8 (x : Int))) (HW : Hid (wid (x : Int) = 0)) :
    Calls Tryz.prog 9 #[.slice (some ⟨b, o, none⟩) n c] w fun e w' => e = .returned (ofG none) ∧ Below w.heap.size w w' := by
  have z0 := keepc (one w (.cells #[.int .i64 0, .int .u64 0, .int .u64 0, .int .i64 0] 50)) y0
  go_enter Tryz.func9, Tryz.ntmps9
  go_wp2_with fail
  refine (rbits_as HW _).mono ?_
  rintro e w1 ⟨rfl, rfl⟩
  go_wp2
  exact bodyPost_ret (v := .tuple #[.agg #[.int .i64 0, .int .u64 0, .int .u64 0, .int .i64 0], .int .i64 0, .int .i64 70]) (by simp [results, Tryz.results9, go_sem]) rfl ⟨rfl, one _ _⟩

set_option maxHeartbeats 1000000 in
theorem rget_less4 (n c b o : Nat) (w : World) (hn : 2 ≤ n) (y0 : w.cell? ⟨b, o, none⟩ = some (.int .u8 4)) (hl : n < 6) :
    Calls Tryz.prog 9 #[.slice (some ⟨b, o, none⟩) n c] w fun e w' => e = .returned (ofG none) ∧ Below w.heap.size w w' := by
  have z0 := keepc (one w (.cells #[.int .i64 0, .int .u64 0, .int .u64 0, .int .i64 0] 50)) y0
  go_enter Tryz.func9, Tryz.ntmps9
  go_wp2_with fail
  refine (rbits_as (n := 32) (Lib.hid rfl) _).mono ?_
  rintro e w1 ⟨rfl, rfl⟩
  go_wp2
  exact bodyPost_ret (v := .tuple #[.agg #[.int .i64 0, .int .u64 0, .int .u64 0, .int .i64 0], .int .i64 0, .int .i64 70]) (by simp [results, Tryz.results9, go_sem]) rfl ⟨rfl, one _ _⟩

set_option maxHeartbeats 1000000 in
theorem rget_less6 (n c b o : Nat) (w : World) (hn : 2 ≤ n) (y0 : w.cell? ⟨b, o, none⟩ = some (.int .u8 6)) (hl : n < 18) :
    Calls Tryz.prog 9 #[.slice (some ⟨b, o, none⟩) n c] w fun e w' => e = .returned (ofG none) ∧ Below w.heap.size w w' := by
  have z0 := keepc (one w (.cells #[.int .i64 0, .int .u64 0, .int .u64 0, .int .i64 0] 50)) y0
  go_enter Tryz.func9, Tryz.ntmps9
  go_wp2_with fail
  refine (rbits_as (n := 128) (Lib.hid rfl) _).mono ?_
  rintro e w1 ⟨rfl, rfl⟩
  go_wp2
  exact bodyPost_ret (v := .tuple #[.agg #[.int .i64 0, .int .u64 0, .int .u64 0, .int .i64 0], .int .i64 0, .int .i64 70]) (by simp [results, Tryz.results9, go_sem]) rfl ⟨rfl, one _ _⟩

set_option maxRecDepth 20000 in
set_option maxHeartbeats 4000000 in
theorem rget_full4 (l : List UInt8) (n c b o : Nat) (y : Nat) (w : World) (hn : 6 ≤ n) (hnc : n ≤ c) (hy : y < 256) (hb2 : b < w.heap.size) (y0 : w.cell? ⟨b, o, none⟩ = some (.int .u8 4)) (y1 : w.cell? ⟨b, o + 1, none⟩ = some (.int .u8 (y : Int)))
    (hsh : Shows cel w w.heap.size (some ⟨b, o + 2, none⟩) l) (HL : Hid (l.length = 4)) (X Y : Nat) (hX : X < 18446744073709551616) (hY : Y < 18446744073709551616) (HX : Hid (ofB l / 18446744073709551616 = X)) (HY : Hid (ofB l % 18446744073709551616 = Y)) (V : Bool) (HV : Hid (vP 4 X Y (y : Int) = V)) :
    Calls Tryz.prog 9 #[.slice (some ⟨b, o, none⟩) n c] w fun e w' => e = .returned (ofG (if V = true then some (4, X, Y, (y : Int), 6) else none)) ∧ Below w.heap.size w w' := by
  have hs := PS.new w 50
  have B0 := one w (.cells #[.int .i64 0, .int .u64 0, .int .u64 0, .int .i64 0] 50)
  have z0 := keepc B0 y0
  have z1 := keepc B0 y1
  have hc2 : ¬ c = 2 := by omega
  have i1 : (1 : Int) < (n : Int) := by omega
  have i2 : (6 : Int) ≤ (c : Int) := by omega
  have i5 : 6 ≤ c := by omega
  have iwy : IntKind.i64.wrap (y : Int) = (y : Int) := IntWalk.i64_in _ ⟨by omega, by omega⟩
  have iw : IntKind.i64.wrap 6 = 6 := by decide
  have i6 : 2 ≤ c := by omega
  have i7 : (2 : Int) ≤ (c : Int) := by omega
  have i3 : ¬ (n : Int) < 6 := by omega
  have i4 : ¬ (n : Int) < 2 := by omega
  go_enter Tryz.func9, Tryz.ntmps9
  go_wp2_with fail
  refine (rbits_as (f := 4) (n := 32) (Lib.hid rfl) _).mono ?_
  rintro e w1 ⟨rfl, rfl⟩
  go_upto_region 6 with fail
  have zd := keepc (Below.refl _ _).drew z1
  have zb := zb_new w 50
  go_region_held3 (fun W => W.cell? ⟨b, o + 1, none⟩ = some (.int .u8 (y : Int)) ∧ PS w W)
    (first | assumption | with_reducible exact ⟨zd, hs.on (Below.refl _ _).drew⟩ | with_reducible exact ks_on (by assumption) (by assumption) | with_reducible exact ks_allocd _ ⟨z1, hs⟩ | with_reducible exact ks_alloc _ (by assumption) | with_reducible exact ks_set _ (by simp) hb2 _ _ _ _ (by assumption))
    (first
      | (go_at_call 31; refine (raddr_ks (by assumption) hsh HL (.inl ⟨rfl, rfl⟩) HX HY).mono ?_; rintro e w7 ⟨rfl, hb7⟩; have kS7 : w7.cell? ⟨b, o + 1, none⟩ = some (.int .u8 (y : Int)) ∧ PS w w7 := ks_on (by assumption) hb7; try (with_reducible (have p0 := keepc hb7 zb.1; have p1 := keepc hb7 zb.2.1; have p2 := keepc hb7 zb.2.2.1; have p3 := keepc hb7 zb.2.2.2.1; have pf := keepf hb7 zb.2.2.2.2.1 zb.2.2.2.2.2))))
  · have hF := GF.new kS7.2 4 (X : Int) (Y : Int) (y : Int) 50
    clear hb7 kS7 zb zd z0 z1 B0 hs y0 y1 hsh
    obtain ⟨ps, p0, p1, p2, p3⟩ := hF
    go_wp2_with fail
    refine (rvalid_ab HV _ hX hY).mono ?_
    rintro e w8 ⟨rfl, hb8⟩
    have hs8 := ps.on hb8
    replace p0 := keepc hb8 p0
    replace p1 := keepc hb8 p1
    replace p2 := keepc hb8 p2
    replace p3 := keepc hb8 p3
    clear ps hb8
    cases V with
    | true =>
      have hx := hs8.tell 4 (X : Int) (Y : Int) (y : Int)
      obtain ⟨c0, c1, c2, c3, fz, lt, bl⟩ := hs8
      go_wp2
      clear c0 c1 c2 c3
      obtain ⟨c0, c1, c2, c3, bl⟩ := hx
      exact bodyPost_ret (v := .tuple #[.agg #[.int .i64 4, .int .u64 (X : Int), .int .u64 (Y : Int), .int .i64 (y : Int)], .int .i64 6, .int .i64 0]) (by simp [results, Tryz.results9, go_sem, c0, c1, c2, c3]) rfl ⟨rfl, bl⟩
    | false =>
      have hx := hs8.tell 0 0 0 0
      obtain ⟨c0, c1, c2, c3, fz, lt, bl⟩ := hs8
      go_wp2
      clear c0 c1 c2 c3
      obtain ⟨c0, c1, c2, c3, bl⟩ := hx
      exact bodyPost_ret (v := .tuple #[.agg #[.int .i64 0, .int .u64 0, .int .u64 0, .int .i64 0], .int .i64 0, .int .i64 70]) (by simp [results, Tryz.results9, go_sem, c0, c1, c2, c3]) rfl ⟨rfl, bl⟩
  · have hF := GF.set kS7.2 (by omega) p0 p1 p2 p3 4 (X : Int) (Y : Int) (y : Int)
    clear hb7 kS7 zb zd z0 z1 B0 hs y0 y1 hsh p0 p1 p2 p3 pf
    obtain ⟨ps, p0, p1, p2, p3⟩ := hF
    go_wp2_with fail
    refine (rvalid_ab HV _ hX hY).mono ?_
    rintro e w8 ⟨rfl, hb8⟩
    have hs8 := ps.on hb8
    replace p0 := keepc hb8 p0
    replace p1 := keepc hb8 p1
    replace p2 := keepc hb8 p2
    replace p3 := keepc hb8 p3
    clear ps hb8
    cases V with
    | true =>
      have hx := hs8.tell 4 (X : Int) (Y : Int) (y : Int)
      obtain ⟨c0, c1, c2, c3, fz, lt, bl⟩ := hs8
      go_wp2
      clear c0 c1 c2 c3
      obtain ⟨c0, c1, c2, c3, bl⟩ := hx
      exact bodyPost_ret (v := .tuple #[.agg #[.int .i64 4, .int .u64 (X : Int), .int .u64 (Y : Int), .int .i64 (y : Int)], .int .i64 6, .int .i64 0]) (by simp [results, Tryz.results9, go_sem, c0, c1, c2, c3]) rfl ⟨rfl, bl⟩
    | false =>
      have hx := hs8.tell 0 0 0 0
      obtain ⟨c0, c1, c2, c3, fz, lt, bl⟩ := hs8
      go_wp2
      clear c0 c1 c2 c3
      obtain ⟨c0, c1, c2, c3, bl⟩ := hx
      exact bodyPost_ret (v := .tuple #[.agg #[.int .i64 0, .int .u64 0, .int .u64 0, .int .i64 0], .int .i64 0, .int .i64 70]) (by simp [results, Tryz.results9, go_sem, c0, c1, c2, c3]) rfl ⟨rfl, bl⟩

set_option maxRecDepth 20000 in
set_option maxHeartbeats 4000000 in
theorem rget_full6 (l : List UInt8) (n c b o : Nat) (y : Nat) (w : World) (hn : 18 ≤ n) (hnc : n ≤ c) (hy : y < 256) (hb2 : b < w.heap.size) (y0 : w.cell? ⟨b, o, none⟩ = some (.int .u8 6)) (y1 : w.cell? ⟨b, o + 1, none⟩ = some (.int .u8 (y : Int)))
    (hsh : Shows cel w w.heap.size (some ⟨b, o + 2, none⟩) l) (HL : Hid (l.length = 16)) (X Y : Nat) (hX : X < 18446744073709551616) (hY : Y < 18446744073709551616) (HX : Hid (ofB l / 18446744073709551616 = X)) (HY : Hid (ofB l % 18446744073709551616 = Y)) (V : Bool) (HV : Hid (vP 6 X Y (y : Int) = V)) :
    Calls Tryz.prog 9 #[.slice (some ⟨b, o, none⟩) n c] w fun e w' => e = .returned (ofG (if V = true then some (6, X, Y, (y : Int), 18) else none)) ∧ Below w.heap.size w w' := by
  have hs := PS.new w 50
  have B0 := one w (.cells #[.int .i64 0, .int .u64 0, .int .u64 0, .int .i64 0] 50)
  have z0 := keepc B0 y0
  have z1 := keepc B0 y1
  have hc2 : ¬ c = 2 := by omega
  have i1 : (1 : Int) < (n : Int) := by omega
  have i2 : (18 : Int) ≤ (c : Int) := by omega
  have i5 : 18 ≤ c := by omega
  have iwy : IntKind.i64.wrap (y : Int) = (y : Int) := IntWalk.i64_in _ ⟨by omega, by omega⟩
  have iw : IntKind.i64.wrap 18 = 18 := by decide
  have i6 : 2 ≤ c := by omega
  have i7 : (2 : Int) ≤ (c : Int) := by omega
  have i3 : ¬ (n : Int) < 18 := by omega
  have i4 : ¬ (n : Int) < 2 := by omega
  go_enter Tryz.func9, Tryz.ntmps9
  go_wp2_with fail
  refine (rbits_as (f := 6) (n := 128) (Lib.hid rfl) _).mono ?_
  rintro e w1 ⟨rfl, rfl⟩
  go_upto_region 6 with fail
  have zd := keepc (Below.refl _ _).drew z1
  have zb := zb_new w 50
  go_region_held3 (fun W => W.cell? ⟨b, o + 1, none⟩ = some (.int .u8 (y : Int)) ∧ PS w W)
    (first | assumption | with_reducible exact ⟨zd, hs.on (Below.refl _ _).drew⟩ | with_reducible exact ks_on (by assumption) (by assumption) | with_reducible exact ks_allocd _ ⟨z1, hs⟩ | with_reducible exact ks_alloc _ (by assumption) | with_reducible exact ks_set _ (by simp) hb2 _ _ _ _ (by assumption))
    (first
      | (go_at_call 31; refine (raddr_ks (by assumption) hsh HL (.inr ⟨rfl, rfl⟩) HX HY).mono ?_; rintro e w7 ⟨rfl, hb7⟩; have kS7 : w7.cell? ⟨b, o + 1, none⟩ = some (.int .u8 (y : Int)) ∧ PS w w7 := ks_on (by assumption) hb7; try (with_reducible (have p0 := keepc hb7 zb.1; have p1 := keepc hb7 zb.2.1; have p2 := keepc hb7 zb.2.2.1; have p3 := keepc hb7 zb.2.2.2.1; have pf := keepf hb7 zb.2.2.2.2.1 zb.2.2.2.2.2))))
  · have hF := GF.new kS7.2 6 (X : Int) (Y : Int) (y : Int) 50
    clear hb7 kS7 zb zd z0 z1 B0 hs y0 y1 hsh
    obtain ⟨ps, p0, p1, p2, p3⟩ := hF
    go_wp2_with fail
    refine (rvalid_ab HV _ hX hY).mono ?_
    rintro e w8 ⟨rfl, hb8⟩
    have hs8 := ps.on hb8
    replace p0 := keepc hb8 p0
    replace p1 := keepc hb8 p1
    replace p2 := keepc hb8 p2
    replace p3 := keepc hb8 p3
    clear ps hb8
    cases V with
    | true =>
      have hx := hs8.tell 6 (X : Int) (Y : Int) (y : Int)
      obtain ⟨c0, c1, c2, c3, fz, lt, bl⟩ := hs8
      go_wp2
      clear c0 c1 c2 c3
      obtain ⟨c0, c1, c2, c3, bl⟩ := hx
      exact bodyPost_ret (v := .tuple #[.agg #[.int .i64 6, .int .u64 (X : Int), .int .u64 (Y : Int), .int .i64 (y : Int)], .int .i64 18, .int .i64 0]) (by simp [results, Tryz.results9, go_sem, c0, c1, c2, c3]) rfl ⟨rfl, bl⟩
    | false =>
      have hx := hs8.tell 0 0 0 0
      obtain ⟨c0, c1, c2, c3, fz, lt, bl⟩ := hs8
      go_wp2
      clear c0 c1 c2 c3
      obtain ⟨c0, c1, c2, c3, bl⟩ := hx
      exact bodyPost_ret (v := .tuple #[.agg #[.int .i64 0, .int .u64 0, .int .u64 0, .int .i64 0], .int .i64 0, .int .i64 70]) (by simp [results, Tryz.results9, go_sem, c0, c1, c2, c3]) rfl ⟨rfl, bl⟩
  · have hF := GF.set kS7.2 (by omega) p0 p1 p2 p3 6 (X : Int) (Y : Int) (y : Int)
    clear hb7 kS7 zb zd z0 z1 B0 hs y0 y1 hsh p0 p1 p2 p3 pf
    obtain ⟨ps, p0, p1, p2, p3⟩ := hF
    go_wp2_with fail
    refine (rvalid_ab HV _ hX hY).mono ?_
    rintro e w8 ⟨rfl, hb8⟩
    have hs8 := ps.on hb8
    replace p0 := keepc hb8 p0
    replace p1 := keepc hb8 p1
    replace p2 := keepc hb8 p2
    replace p3 := keepc hb8 p3
    clear ps hb8
    cases V with
    | true =>
      have hx := hs8.tell 6 (X : Int) (Y : Int) (y : Int)
      obtain ⟨c0, c1, c2, c3, fz, lt, bl⟩ := hs8
      go_wp2
      clear c0 c1 c2 c3
      obtain ⟨c0, c1, c2, c3, bl⟩ := hx
      exact bodyPost_ret (v := .tuple #[.agg #[.int .i64 6, .int .u64 (X : Int), .int .u64 (Y : Int), .int .i64 (y : Int)], .int .i64 18, .int .i64 0]) (by simp [results, Tryz.results9, go_sem, c0, c1, c2, c3]) rfl ⟨rfl, bl⟩
    | false =>
      have hx := hs8.tell 0 0 0 0
      obtain ⟨c0, c1, c2, c3, fz, lt, bl⟩ := hs8
      go_wp2
      clear c0 c1 c2 c3
      obtain ⟨c0, c1, c2, c3, bl⟩ := hx
      exact bodyPost_ret (v := .tuple #[.agg #[.int .i64 0, .int .u64 0, .int .u64 0, .int .i64 0], .int .i64 0, .int .i64 70]) (by simp [results, Tryz.results9, go_sem, c0, c1, c2, c3]) rfl ⟨rfl, bl⟩

theorem rget_any (l : List UInt8) (A : Option Addr) (c : Nat) (w : World) (hc : l.length ≤ c) (hsh : Shows cel w w.heap.size A l) :
    Calls Tryz.prog 9 #[.slice A l.length c] w fun e w' => e = .returned (ofG (gtP l)) ∧ Below w.heap.size w w' := by
  match l, hc, hsh with
  | [], hc, hsh => exact rget_short 0 c A w (by omega)
  | [a], hc, hsh => exact rget_short 1 c A w (by omega)
  | a :: d :: r, hc, hsh =>
    obtain ⟨b, o, rfl, hb2, hcs⟩ := hsh (by simp)
    have y0 := hcs 0 a rfl
    have y1 := hcs 1 d rfl
    rw [Nat.add_zero] at y0
    unfold cel at y0 y1
    have ha := a.toNat_lt
    have hd := d.toNat_lt
    have hlen : (a :: d :: r).length = 2 + r.length := by simp; omega
    simp only [gtP]
    by_cases h4 : a.toNat = 4
    · rw [if_pos h4]
      rw [h4] at y0
      by_cases hr : 4 ≤ r.length
      · have hl4 : (r.take 4).length = 4 := by rw [List.length_take]; omega
        have hlt := ofB_lt4 _ hl4
        have hv : vP 4 (ofB (r.take 4) / 18446744073709551616) (ofB (r.take 4) % 18446744073709551616) (d.toNat : Int) = vP 4 0 (ofB (r.take 4)) (d.toNat : Int) := by
          rw [Nat.div_eq_of_lt (by omega), Nat.mod_eq_of_lt (by omega)]
        refine (rget_full4 (r.take 4) _ c b o d.toNat w (by omega) hc hd hb2 y0 y1 (Shows.mid hsh 2 4) (Lib.hid hl4) _ _ (by omega) (Nat.mod_lt _ (by omega)) (Lib.hid rfl) (Lib.hid rfl) _ (Lib.hid hv)).mono ?_
        rintro e w' ⟨rfl, hb⟩
        refine ⟨?_, hb⟩
        rw [Nat.div_eq_of_lt (by omega), Nat.mod_eq_of_lt (by omega)]
        cases vP 4 0 (ofB (r.take 4)) (d.toNat : Int) <;> simp [hr]
      · rw [if_neg (fun h => hr h.1)]
        exact rget_less4 _ c b o w (by omega) y0 (by omega)
    · rw [if_neg h4]
      by_cases h6 : a.toNat = 6
      · rw [h6] at y0 ⊢
        by_cases hr : 16 ≤ r.length
        · have hl16 : (r.take 16).length = 16 := by rw [List.length_take]; omega
          have hl8 : ((r.drop 8).take 8).length = 8 := by rw [List.length_take, List.length_drop]; omega
          have e16 : r.take 16 = r.take 8 ++ (r.drop 8).take 8 := List.take_add (l := r) (i := 8) (j := 8)
          have hlt := ofB_lt ((r.drop 8).take 8)
          rw [hl8] at hlt
          have e0 : ofB (r.take 16) = ofB (r.take 8) * 18446744073709551616 + ofB ((r.drop 8).take 8) := by rw [e16, ofB_two, hl8]
          have eX : ofB (r.take 16) / 18446744073709551616 = ofB (r.take 8) := by omega
          have eY : ofB (r.take 16) % 18446744073709551616 = ofB ((r.drop 8).take 8) := by omega
          have hX : ofB (r.take 8) < 18446744073709551616 := by
            have h1 := ofB_lt (r.take 8)
            have h2 : (r.take 8).length = 8 := by rw [List.length_take]; omega
            rw [h2] at h1; exact h1
          refine (rget_full6 (r.take 16) _ c b o d.toNat w (by omega) hc hd hb2 y0 y1 (Shows.mid hsh 2 16) (Lib.hid hl16) _ _ hX hlt (Lib.hid eX) (Lib.hid eY) _ (Lib.hid rfl)).mono ?_
          rintro e w' ⟨rfl, hb⟩
          refine ⟨?_, hb⟩
          cases vP 6 (ofB (r.take 8)) (ofB ((r.drop 8).take 8)) (d.toNat : Int) <;> simp [hr]
        · rw [if_neg (fun h => hr h.1)]
          exact rget_less6 _ c b o w (by omega) y0 (by omega)
      · have hw0 : wid (a.toNat : Int) = 0 := by unfold wid; rw [if_neg (by omega), if_neg (by omega)]
        rw [if_neg (fun h => by
          rcases (vA_iff _ _ _).1 ((vP_iff _ _ _ _).1 h.2).1 with h | ⟨h, -⟩ <;> omega)]
        exact rget_nofam _ c b o w (by omega) a.toNat ha y0 (Lib.hid hw0)

end Go.Proofs.YtnodiejfhkjliaaGreatDoor.Pf
