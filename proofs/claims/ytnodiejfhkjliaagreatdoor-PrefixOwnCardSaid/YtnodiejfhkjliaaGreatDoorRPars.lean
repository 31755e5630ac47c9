/- Contract: the address that bytes say, by the reference. Contract: the address that a text seems to say, by the reference. Contracts: an address, a prefix out of its text, by the reference: every text. Contract: a prefix out of its text, by the reference: every text. -/
import Derived.Test.YtnodiejfhkjliaaGreatDoorRNum
import Derived.RegionTactic
import Derived.BigRegion
import Derived.Deep.RegionHeld3
namespace Go.Proofs.YtnodiejfhkjliaaGreatDoor.Pf
open Go.RowKit Go.Proofs.YtnodiejfhkjliaaGreatDoor.Wd Go.Proofs.YtnodiejfhkjliaaGreatDoor.Px Go.Proofs.YtnodiejfhkjliaaGreatDoor.By Go.Proofs.YtnodiejfhkjliaaGreatDoor.En Go.Proofs.YtnodiejfhkjliaaGreatDoor.Pl

/-- the world of Addr: the result's block, the address so far -/
structure AD (w : World) (f : Int) (hi lo : Nat) (W : World) : Prop where
  r0 : W.cell? ⟨w.heap.size, 0, none⟩ = some (.int .i64 0)
  r1 : W.cell? ⟨w.heap.size, 1, none⟩ = some (.int .u64 0)
  r2 : W.cell? ⟨w.heap.size, 2, none⟩ = some (.int .u64 0)
  rf : ∀ o, W.frozen? ⟨w.heap.size, o, none⟩ = false
  c0 : W.cell? ⟨w.heap.size + 1, 0, none⟩ = some (.int .i64 f)
  c1 : W.cell? ⟨w.heap.size + 1, 1, none⟩ = some (.int .u64 hi)
  c2 : W.cell? ⟨w.heap.size + 1, 2, none⟩ = some (.int .u64 lo)
  fz : ∀ o, W.frozen? ⟨w.heap.size + 1, o, none⟩ = false
  lt : w.heap.size + 1 < W.heap.size
  bl : Below w.heap.size w W
/-- the result's block when all is told -/
structure AT (w : World) (f hi lo : Int) (W : World) : Prop where
  c0 : W.cell? ⟨w.heap.size, 0, none⟩ = some (.int .i64 f)
  c1 : W.cell? ⟨w.heap.size, 1, none⟩ = some (.int .u64 hi)
  c2 : W.cell? ⟨w.heap.size, 2, none⟩ = some (.int .u64 lo)
  bl : Below w.heap.size w W
theorem AD.hi_ {w W : World} {f : Int} {hi lo : Nat} (h : AD w f hi lo W) (x : Nat) : AD w f x lo (W.setCell ⟨w.heap.size + 1, 1, none⟩ (.int .u64 x)) := by
  obtain ⟨r0, r1, r2, rf, c0, c1, c2, fz, lt, bl⟩ := h
  refine ⟨by go_simp, by go_simp, by go_simp, fun o => ?_, by go_simp, by go_simp, by go_simp, fun o => ?_, by simpa using lt, bl.setCell (p := ⟨w.heap.size + 1, 1, none⟩) (by simp) _⟩
  · have := rf o; go_simp
  · have := fz o; go_simp
theorem AD.lo_ {w W : World} {f : Int} {hi lo : Nat} (h : AD w f hi lo W) (x : Nat) : AD w f hi x (W.setCell ⟨w.heap.size + 1, 2, none⟩ (.int .u64 x)) := by
  obtain ⟨r0, r1, r2, rf, c0, c1, c2, fz, lt, bl⟩ := h
  refine ⟨by go_simp, by go_simp, by go_simp, fun o => ?_, by go_simp, by go_simp, by go_simp, fun o => ?_, by simpa using lt, bl.setCell (p := ⟨w.heap.size + 1, 2, none⟩) (by simp) _⟩
  · have := rf o; go_simp
  · have := fz o; go_simp
theorem AD.drew {w W : World} {f : Int} {hi lo : Nat} (h : AD w f hi lo W) : AD w f hi lo W.drew := by
  obtain ⟨r0, r1, r2, rf, c0, c1, c2, fz, lt, bl⟩ := h
  exact ⟨r0, r1, r2, rf, c0, c1, c2, fz, lt, bl.drew⟩
theorem AD.fam {w W : World} {f : Int} {hi lo : Nat} (h : AD w f hi lo W) (g : Int) : AD w g hi lo (W.setCell ⟨w.heap.size + 1, 0, none⟩ (.int .i64 g)) := by
  obtain ⟨r0, r1, r2, rf, c0, c1, c2, fz, lt, bl⟩ := h
  refine ⟨by go_simp, by go_simp, by go_simp, fun o => ?_, by go_simp, by go_simp, by go_simp, fun o => ?_, by simpa using lt, bl.setCell (p := ⟨w.heap.size + 1, 0, none⟩) (by simp) _⟩
  · have := rf o; go_simp
  · have := fz o; go_simp
theorem AD.tell {w W : World} {f : Int} {hi lo : Nat} (h : AD w f hi lo W) : AT w f hi lo (((W.setCell ⟨w.heap.size, 0, none⟩ (.int .i64 f)).setCell ⟨w.heap.size, 1, none⟩ (.int .u64 hi)).setCell ⟨w.heap.size, 2, none⟩ (.int .u64 lo)) := by
  obtain ⟨r0, r1, r2, rf, c0, c1, c2, fz, lt, bl⟩ := h
  exact ⟨by go_simp, by go_simp, by go_simp, ((bl.setCell (p := ⟨w.heap.size, 0, none⟩) (Nat.le_refl _) _).setCell (p := ⟨w.heap.size, 1, none⟩) (Nat.le_refl _) _).setCell (p := ⟨w.heap.size, 2, none⟩) (Nat.le_refl _) _⟩
theorem AD.new (w : World) (f : Int) (t t' : TypeId) : AD w f 0 0 ((w.alloc (.cells #[.int .i64 0, .int .u64 0, .int .u64 0] t)).alloc (.cells #[.int .i64 f, .int .u64 0, .int .u64 0] t')) :=
  ⟨by go_simp, by go_simp, by go_simp, fun o => by go_simp, by go_simp, by go_simp, by go_simp, fun o => by go_simp, by simp, two _ _ _⟩
theorem ofB_take {l : List UInt8} {k : Nat} (h : k < l.length) : ofB (l.take (k + 1)) = ofB (l.take k) * 256 + l[k].toNat := by
  rw [List.take_add_one, List.getElem?_eq_getElem h]
  exact ofB_snoc _ _
theorem ofB_take_lt {l : List UInt8} {k : Nat} (h : k ≤ 15) : ofB (l.take k) < 1329227995784915872903807060280344576 := by
  have h1 := ofB_lt (l.take k)
  have h2 : (l.take k).length ≤ 15 := by rw [List.length_take]; omega
  exact Nat.lt_of_lt_of_le h1 (Nat.le_trans (Nat.pow_le_pow_right (by omega) h2) (by decide))

set_option maxRecDepth 20000 in
set_option maxHeartbeats 2000000 in
theorem raddr_in (l : List UInt8) (A : Option Addr) (c n : Nat) (f : Int) (hn : n ≤ 16) (HN : Hid (l.length = n)) (hf : (n = 4 ∧ f = 4) ∨ (n ≠ 4 ∧ f = 6)) (w : World) (ha : Shows cel w w.heap.size A l) :
    Calls Tryz.prog 31 #[.slice A n c] w fun e w' => e = .returned (.agg #[.int .i64 f, .int .u64 ((ofB l / 18446744073709551616 : Nat) : Int), .int .u64 ((ofB l % 18446744073709551616 : Nat) : Int)]) ∧ Below w.heap.size w w' := by
  obtain ⟨X, hX⟩ : ∃ x, ofB l / 18446744073709551616 = x := ⟨_, rfl⟩
  obtain ⟨Y, hY⟩ : ∃ x, ofB l % 18446744073709551616 = x := ⟨_, rfl⟩
  rw [hX, hY]
  have HX := Lib.hid hX
  have HY := Lib.hid hY
  clear hX hY
  rcases hf with ⟨h4, rfl⟩ | ⟨h4, rfl⟩
  · have h4' := AD.new w 4 48 48
    have i0 : ((n : Int) == 4) = true := by rw [beq_iff_eq]; omega
    clear h4
    go_enter Tryz.func31, Tryz.ntmps31
    go_wp2
    go_loopw [4] (fun i wr => ∃ k : Nat, k ≤ n ∧ i = .int .i64 (k : Int) ∧ AD w 4 (ofB (l.take k) / 18446744073709551616) (ofB (l.take k) % 18446744073709551616) wr) (fun i _ => n - (intOf i).toNat)
    case atStart => exact ⟨0, Nat.zero_le _, rfl, by rw [List.take_zero]; exact h4'⟩
    case round =>
      obtain ⟨k, hk, rfl, hR⟩ := hrel
      clear h4'
      by_cases hlt : k < n
      · have hkl : k < l.length := by rw [HN.out]; exact hlt
        obtain ⟨b, o, rfl, hb2, hc⟩ := (ha.below hR.bl).at_ hkl
        have hst := ofB_take hkl
        have hN15 := ofB_take_lt (l := l) (k := k) (by omega)
        obtain ⟨N, hN⟩ : ∃ N, ofB (l.take k) = N := ⟨_, rfl⟩
        obtain ⟨u, hu⟩ : ∃ u : Nat, (l[k]'hkl).toNat = u := ⟨_, rfl⟩
        have hu2 : u < 256 := by rw [← hu]; exact UInt8.toNat_lt _
        unfold cel at hc
        rw [hu] at hc hst
        rw [hN] at hst hN15 hR
        obtain ⟨y1, y2⟩ := nx8 N u hu2
        have HST := Lib.hid hst
        obtain ⟨hi, hhi⟩ : ∃ hi, N / 18446744073709551616 = hi := ⟨_, rfl⟩
        obtain ⟨lo, hlo⟩ : ∃ lo, N % 18446744073709551616 = lo := ⟨_, rfl⟩
        have b1 : hi < 72057594037927936 := by omega
        have b2 : lo < 18446744073709551616 := by omega
        rw [hhi, hlo] at hR y1
        rw [hlo] at y2
        clear hst hN hu hhi hlo
        obtain ⟨q, hq⟩ : ∃ q, lo / 72057594037927936 = q := ⟨_, rfl⟩
        obtain ⟨r, hr⟩ : ∃ r, lo % 72057594037927936 = r := ⟨_, rfl⟩
        rw [hq] at y1
        rw [hr] at y2
        have bq : q < 256 := by omega
        have br : r < 72057594037927936 := by omega
        obtain ⟨M, hM⟩ : ∃ M, hi * 256 + q = M := ⟨_, rfl⟩
        obtain ⟨L, hL⟩ : ∃ L, r * 256 + u = L := ⟨_, rfl⟩
        have o3 := or8 hi q bq b1
        have o5 := or8 r u hu2 br
        have s4 := sl8 lo
        rw [hM] at y1 o3
        rw [hL] at y2 o5
        rw [hr] at s4
        have e1 : IntKind.u64.wrap ((hi : Int) * 256) = (hi : Int) * 256 := by rw [sh8 hi b1]; simp
        have e2 : (lo : Int) / 72057594037927936 = (q : Int) := by omega
        have e3 : bits .or .u64 ((hi : Int) * 256) (q : Int) = (M : Int) := by rwa [Int.natCast_mul] at o3
        have e4 : IntKind.u64.wrap ((lo : Int) * 256) = (r : Int) * 256 := by rw [s4]; simp
        have e5 : bits .or .u64 ((r : Int) * 256) (u : Int) = (L : Int) := by rwa [Int.natCast_mul] at o5
        have Y1 := Lib.hid y1
        have Y2 := Lib.hid y2
        clear hq hr hM hL o3 o5 s4 y1 y2
        have i1 : (k : Int) < (n : Int) := by omega
        have hR2 := hR
        obtain ⟨r0, r1, r2, rf, c0, c1, c2, fz, lt, bl⟩ := hR
        have hR3 := hR2.hi_ M
        have hc' := (hR3.bl.cell (p := ⟨b, o + k, none⟩) hb2).trans ((hR2.bl.cell (p := ⟨b, o + k, none⟩) hb2).symm.trans hc)
        obtain ⟨-, -, -, -, c0', c1', c2', fz', -, -⟩ := hR3
        go_wp2
        go_region
        go_wp2
        go_roundw
        case rel => exact ⟨k + 1, by omega, by go_num, by rw [HST.out, Y1.out, Y2.out]; exact (hR2.hi_ _).drew.lo_ _⟩
        case measure => simp [intOf]; omega
      · obtain rfl : k = n := by omega
        have i1 : ¬ (k : Int) < (k : Int) := by omega
        rw [List.take_of_length_le (by rw [HN.out]; exact Nat.le_refl _), HX.out, HY.out] at hR
        have hx := hR.tell
        obtain ⟨r0, r1, r2, rf, c0, c1, c2, fz, lt, bl⟩ := hR
        go_wp2
        clear c0 c1 c2
        obtain ⟨c0, c1, c2, bl⟩ := hx
        exact bodyPost_ret (v := .agg #[.int .i64 4, .int .u64 (X : Int), .int .u64 (Y : Int)]) (by simp [results, Tryz.results31, go_sem, c0, c1, c2]) rfl ⟨rfl, bl⟩
  · have h6 := AD.new w 6 48 48
    have i0 : ((n : Int) == 4) = false := by rw [beq_eq_false_iff_ne]; omega
    clear h4
    go_enter Tryz.func31, Tryz.ntmps31
    go_wp2
    go_loopw [4] (fun i wr => ∃ k : Nat, k ≤ n ∧ i = .int .i64 (k : Int) ∧ AD w 6 (ofB (l.take k) / 18446744073709551616) (ofB (l.take k) % 18446744073709551616) wr) (fun i _ => n - (intOf i).toNat)
    case atStart => exact ⟨0, Nat.zero_le _, rfl, by rw [List.take_zero]; exact h6⟩
    case round =>
      obtain ⟨k, hk, rfl, hR⟩ := hrel
      clear h6
      by_cases hlt : k < n
      · have hkl : k < l.length := by rw [HN.out]; exact hlt
        obtain ⟨b, o, rfl, hb2, hc⟩ := (ha.below hR.bl).at_ hkl
        have hst := ofB_take hkl
        have hN15 := ofB_take_lt (l := l) (k := k) (by omega)
        obtain ⟨N, hN⟩ : ∃ N, ofB (l.take k) = N := ⟨_, rfl⟩
        obtain ⟨u, hu⟩ : ∃ u : Nat, (l[k]'hkl).toNat = u := ⟨_, rfl⟩
        have hu2 : u < 256 := by rw [← hu]; exact UInt8.toNat_lt _
        unfold cel at hc
        rw [hu] at hc hst
        rw [hN] at hst hN15 hR
        obtain ⟨y1, y2⟩ := nx8 N u hu2
        have HST := Lib.hid hst
        obtain ⟨hi, hhi⟩ : ∃ hi, N / 18446744073709551616 = hi := ⟨_, rfl⟩
        obtain ⟨lo, hlo⟩ : ∃ lo, N % 18446744073709551616 = lo := ⟨_, rfl⟩
        have b1 : hi < 72057594037927936 := by omega
        have b2 : lo < 18446744073709551616 := by omega
        rw [hhi, hlo] at hR y1
        rw [hlo] at y2
        clear hst hN hu hhi hlo
        obtain ⟨q, hq⟩ : ∃ q, lo / 72057594037927936 = q := ⟨_, rfl⟩
        obtain ⟨r, hr⟩ : ∃ r, lo % 72057594037927936 = r := ⟨_, rfl⟩
        rw [hq] at y1
        rw [hr] at y2
        have bq : q < 256 := by omega
        have br : r < 72057594037927936 := by omega
        obtain ⟨M, hM⟩ : ∃ M, hi * 256 + q = M := ⟨_, rfl⟩
        obtain ⟨L, hL⟩ : ∃ L, r * 256 + u = L := ⟨_, rfl⟩
        have o3 := or8 hi q bq b1
        have o5 := or8 r u hu2 br
        have s4 := sl8 lo
        rw [hM] at y1 o3
        rw [hL] at y2 o5
        rw [hr] at s4
        have e1 : IntKind.u64.wrap ((hi : Int) * 256) = (hi : Int) * 256 := by rw [sh8 hi b1]; simp
        have e2 : (lo : Int) / 72057594037927936 = (q : Int) := by omega
        have e3 : bits .or .u64 ((hi : Int) * 256) (q : Int) = (M : Int) := by rwa [Int.natCast_mul] at o3
        have e4 : IntKind.u64.wrap ((lo : Int) * 256) = (r : Int) * 256 := by rw [s4]; simp
        have e5 : bits .or .u64 ((r : Int) * 256) (u : Int) = (L : Int) := by rwa [Int.natCast_mul] at o5
        have Y1 := Lib.hid y1
        have Y2 := Lib.hid y2
        clear hq hr hM hL o3 o5 s4 y1 y2
        have i1 : (k : Int) < (n : Int) := by omega
        have hR2 := hR
        obtain ⟨r0, r1, r2, rf, c0, c1, c2, fz, lt, bl⟩ := hR
        have hR3 := hR2.hi_ M
        have hc' := (hR3.bl.cell (p := ⟨b, o + k, none⟩) hb2).trans ((hR2.bl.cell (p := ⟨b, o + k, none⟩) hb2).symm.trans hc)
        obtain ⟨-, -, -, -, c0', c1', c2', fz', -, -⟩ := hR3
        go_wp2
        go_region
        go_wp2
        go_roundw
        case rel => exact ⟨k + 1, by omega, by go_num, by rw [HST.out, Y1.out, Y2.out]; exact (hR2.hi_ _).drew.lo_ _⟩
        case measure => simp [intOf]; omega
      · obtain rfl : k = n := by omega
        have i1 : ¬ (k : Int) < (k : Int) := by omega
        rw [List.take_of_length_le (by rw [HN.out]; exact Nat.le_refl _), HX.out, HY.out] at hR
        have hx := hR.tell
        obtain ⟨r0, r1, r2, rf, c0, c1, c2, fz, lt, bl⟩ := hR
        go_wp2
        clear c0 c1 c2
        obtain ⟨c0, c1, c2, bl⟩ := hx
        exact bodyPost_ret (v := .agg #[.int .i64 6, .int .u64 (X : Int), .int .u64 (Y : Int)]) (by simp [results, Tryz.results31, go_sem, c0, c1, c2]) rfl ⟨rfl, bl⟩

end Go.Proofs.YtnodiejfhkjliaaGreatDoor.Pf

namespace Go.Proofs.YtnodiejfhkjliaaGreatDoor.Pf
open Go.RowKit Go.Proofs.YtnodiejfhkjliaaGreatDoor.Wd Go.Proofs.YtnodiejfhkjliaaGreatDoor.Px Go.Proofs.YtnodiejfhkjliaaGreatDoor.By Go.Proofs.YtnodiejfhkjliaaGreatDoor.En Go.Proofs.YtnodiejfhkjliaaGreatDoor.Pl

theorem dgt_lt (x : Int) : dgt x < 16 := by unfold dgt; split <;> (try split) <;> omega
theorem rdN_range {base : Int} (hb : 2 ≤ base) (hb2 : base ≤ 16) : ∀ (l : List UInt8) (n : Int) (M : Nat), 0 ≤ n → n < M → -1 ≤ rdN base n l ∧ rdN base n l < (M * 16 ^ l.length : Nat)
  | [], n, M, h0, h1 => by simp [rdN]; omega
  | c :: r, n, M, h0, h1 => by
    have hp : 0 < 16 ^ (c :: r).length := Nat.pow_pos (by omega)
    have hM : 0 < M := by omega
    rw [rdN]
    split
    · have : 0 < M * 16 ^ (c :: r).length := Nat.mul_pos hM hp
      omega
    · rename_i h
      have hd := dgt_lt (c.toNat : Int)
      have hmul : n * base ≤ n * 16 := Int.mul_le_mul_of_nonneg_left hb2 h0
      have hmul0 : 0 ≤ n * base := Int.mul_nonneg h0 (by omega)
      have := rdN_range hb hb2 r (n * base + dgt (c.toNat : Int)) (M * 16) (by omega) (by push_cast; omega)
      rw [List.length_cons, Nat.pow_succ, Nat.mul_comm (16 ^ r.length), ← Nat.mul_assoc]
      exact this
theorem numN_range {base : Int} (hb : 2 ≤ base) (hb2 : base ≤ 16) (t : List UInt8) : -1 ≤ numN base t ∧ numN base t < 65536 := by
  unfold numN
  split
  · omega
  · rename_i h
    have := rdN_range hb hb2 t 0 1 (Int.le_refl _) (by omega)
    have hp : 16 ^ t.length ≤ 16 ^ 4 := Nat.pow_le_pow_right (by omega) (by omega)
    omega
/-- an address's block: zero, and to be written -/
structure AS (w W : World) : Prop where
  c0 : W.cell? ⟨w.heap.size, 0, none⟩ = some (.int .i64 0)
  c1 : W.cell? ⟨w.heap.size, 1, none⟩ = some (.int .u64 0)
  c2 : W.cell? ⟨w.heap.size, 2, none⟩ = some (.int .u64 0)
  fz : ∀ o, W.frozen? ⟨w.heap.size, o, none⟩ = false
  lt : w.heap.size < W.heap.size
  bl : Below w.heap.size w W
theorem AS.new (w : World) (t : TypeId) : AS w (w.alloc (.cells #[.int .i64 0, .int .u64 0, .int .u64 0] t)) :=
  ⟨by go_simp, by go_simp, by go_simp, fun o => by go_simp, by simp, one _ _⟩
theorem AS.on {w W W' : World} (h : AS w W) (hb : Below W.heap.size W W') : AS w W' :=
  ⟨keepc hb h.c0, keepc hb h.c1, keepc hb h.c2, keepf hb h.lt h.fz, Nat.lt_of_lt_of_le h.lt hb.size, h.bl.trans (hb.mono h.bl.size)⟩
theorem AS.tell {w W : World} (h : AS w W) (f hi lo : Int) : AT w f hi lo (((W.setCell ⟨w.heap.size, 0, none⟩ (.int .i64 f)).setCell ⟨w.heap.size, 1, none⟩ (.int .u64 hi)).setCell ⟨w.heap.size, 2, none⟩ (.int .u64 lo)) := by
  obtain ⟨c0, c1, c2, fz, lt, bl⟩ := h
  exact ⟨by go_simp, by go_simp, by go_simp, ((bl.setCell (p := ⟨w.heap.size, 0, none⟩) (Nat.le_refl _) _).setCell (p := ⟨w.heap.size, 1, none⟩) (Nat.le_refl _) _).setCell (p := ⟨w.heap.size, 2, none⟩) (Nat.le_refl _) _⟩
theorem raddr_as {l : List UInt8} {n : Nat} {f : Int} {X Y : Nat} (HN : Hid (l.length = n)) (hf : (n = 4 ∧ f = 4) ∨ (n = 16 ∧ f = 6)) (HX : Hid (ofB l / 18446744073709551616 = X)) (HY : Hid (ofB l % 18446744073709551616 = Y)) {base : Nat} {v : Value} (w : World) (hown : w.ownsRow base 5 1 v n (l.map cel)) :
    Calls Tryz.prog 31 #[v] w fun e w' => e = .returned (.agg #[.int .i64 f, .int .u64 (X : Int), .int .u64 (Y : Int)]) ∧ Below w.heap.size w w' := by
  have hl := HN.out
  subst hl
  obtain ⟨A, c, rfl⟩ := own_slice hown
  rw [← HX.out, ← HY.out]
  exact raddr_in l A c l.length f (by omega) (Lib.hid rfl) (by omega) w (own_shows hown)

end Go.Proofs.YtnodiejfhkjliaaGreatDoor.Pf

namespace Go.Proofs.YtnodiejfhkjliaaGreatDoor.Pf
open Go.RowKit Go.Proofs.YtnodiejfhkjliaaGreatDoor.Wd Go.Proofs.YtnodiejfhkjliaaGreatDoor.Px Go.Proofs.YtnodiejfhkjliaaGreatDoor.By Go.Proofs.YtnodiejfhkjliaaGreatDoor.En Go.Proofs.YtnodiejfhkjliaaGreatDoor.Pl

theorem gs_prT (t : List UInt8) : prT (gsA t).1 ((gsA t).2 / 18446744073709551616) ((gsA t).2 % 18446744073709551616) = prA (gsA t).1 (gsA t).2 := by
  rcases gsA_ok t with h | h
  · rw [h]; decide
  · obtain ⟨h1, h2⟩ := num_of h
    rw [prT_yes h1, h2]
end Go.Proofs.YtnodiejfhkjliaaGreatDoor.Pf

namespace Go.Proofs.YtnodiejfhkjliaaGreatDoor.Pf
open Go.RowKit Go.Proofs.YtnodiejfhkjliaaGreatDoor.Wd Go.Proofs.YtnodiejfhkjliaaGreatDoor.Px Go.Proofs.YtnodiejfhkjliaaGreatDoor.By Go.Proofs.YtnodiejfhkjliaaGreatDoor.En Go.Proofs.YtnodiejfhkjliaaGreatDoor.Pl

theorem keep7 {w W : World} {B b o : Nat} {f hi lo : Int} {v : Value} (ob : Obj) (h : W.cell? ⟨B, 0, none⟩ = some (.int .i64 f) ∧ W.cell? ⟨B, 1, none⟩ = some (.int .u64 hi) ∧ W.cell? ⟨B, 2, none⟩ = some (.int .u64 lo) ∧ W.cell? ⟨b, o, none⟩ = some v ∧ PS w W) :
    (W.alloc ob).cell? ⟨B, 0, none⟩ = some (.int .i64 f) ∧ (W.alloc ob).cell? ⟨B, 1, none⟩ = some (.int .u64 hi) ∧ (W.alloc ob).cell? ⟨B, 2, none⟩ = some (.int .u64 lo) ∧ (W.alloc ob).cell? ⟨b, o, none⟩ = some v ∧ PS w (W.alloc ob) :=
  ⟨keepc (one _ _) h.1, keepc (one _ _) h.2.1, keepc (one _ _) h.2.2.1, keepc (one _ _) h.2.2.2.1, h.2.2.2.2.on (one _ _)⟩
theorem keep7d {w W : World} {B b o : Nat} {f hi lo : Int} {v : Value} (ob : Obj) (h : W.cell? ⟨B, 0, none⟩ = some (.int .i64 f) ∧ W.cell? ⟨B, 1, none⟩ = some (.int .u64 hi) ∧ W.cell? ⟨B, 2, none⟩ = some (.int .u64 lo) ∧ W.cell? ⟨b, o, none⟩ = some v ∧ PS w W) :
    (W.alloc ob).drew.cell? ⟨B, 0, none⟩ = some (.int .i64 f) ∧ (W.alloc ob).drew.cell? ⟨B, 1, none⟩ = some (.int .u64 hi) ∧ (W.alloc ob).drew.cell? ⟨B, 2, none⟩ = some (.int .u64 lo) ∧ (W.alloc ob).drew.cell? ⟨b, o, none⟩ = some v ∧ PS w (W.alloc ob).drew :=
  have hb := (one W ob).drew
  ⟨keepc hb h.1, keepc hb h.2.1, keepc hb h.2.2.1, keepc hb h.2.2.2.1, h.2.2.2.2.on hb⟩

theorem two_of {α : Type} : ∀ {l : List α}, l.length = 2 → ∃ x y, l = [x, y]
  | [x, y], _ => ⟨x, y, rfl⟩
end Go.Proofs.YtnodiejfhkjliaaGreatDoor.Pf
