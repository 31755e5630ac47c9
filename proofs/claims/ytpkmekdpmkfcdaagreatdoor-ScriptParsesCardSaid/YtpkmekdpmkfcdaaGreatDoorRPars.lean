/- Contract: the address that bytes say, by the reference. Contract: the address that a text seems to say, by the reference. Contracts: an address, a prefix out of its text, by the reference: every text. Contract: a prefix out of its text, by the reference: every text. -/
import Derived.Test.YtpkmekdpmkfcdaaGreatDoorRNum
import Derived.RegionTactic
import Derived.BigRegion
import Derived.Deep.RegionHeld3
namespace Go.Proofs.YtpkmekdpmkfcdaaGreatDoor.Pf
open Go.RowKit Go.Proofs.YtpkmekdpmkfcdaaGreatDoor.Wd Go.Proofs.YtpkmekdpmkfcdaaGreatDoor.Px Go.Proofs.YtpkmekdpmkfcdaaGreatDoor.By Go.Proofs.YtpkmekdpmkfcdaaGreatDoor.En Go.Proofs.YtpkmekdpmkfcdaaGreatDoor.Pl

/-- the world of Addr: the result's block, the address so far -/
structure AD (w : World) (f : Int) (hi lo : Nat) (W : World) : Prop where
  r0 : W.cell? ⟨w.heap.size, 0, none⟩ = some (.int .i64 0)
  r1 : W.cell? ⟨w.heap.size, 1, none⟩ = some (.int .u64 0)
  r2 : W.cell? ⟨w.heap.size, 2, none⟩ = some (.int .u64 0)
  rf : ∀ o, W.frozen? ⟨w.heap.size, o, none⟩ = false
  c0 : W.cell? ⟨w.heap.size + 1, 0, none⟩ = some (.int .i64 f)
  c1 : W.cell? ⟨w.heap.size + 1, 1, none⟩ = some (.int .u64 hi)
  c2 : W.cell? ⟨w.heap.size + 1, 2, none⟩ = some (.int .u64 lo)
  fz : ∀ o, W.frozen? ⟨w.heap.size + 1, o, none⟩ = false
  lt : w.heap.size + 1 < W.heap.size
  bl : Below w.heap.size w W
/-- the result's block when all is told -/
structure AT (w : World) (f hi lo : Int) (W : World) : Prop where
  c0 : W.cell? ⟨w.heap.size, 0, none⟩ = some (.int .i64 f)
  c1 : W.cell? ⟨w.heap.size, 1, none⟩ = some (.int .u64 hi)
  c2 : W.cell? ⟨w.heap.size, 2, none⟩ = some (.int .u64 lo)
  bl : Below w.heap.size w W
theorem AD.hi_ {w W : World} {f : Int} {hi lo : Nat} (h : AD w f hi lo W) (x : Nat) : AD w f x lo (W.setCell ⟨w.heap.size + 1, 1, none⟩ (.int .u64 x)) := by
  obtain ⟨r0, r1, r2, rf, c0, c1, c2, fz, lt, bl⟩ := h
  refine ⟨by go_simp, by go_simp, by go_simp, fun o => ?_, by go_simp, by go_simp, by go_simp, fun o => ?_, by simpa using lt, bl.setCell (p := ⟨w.heap.size + 1, 1, none⟩) (by simp) _⟩
  · have := rf o; go_simp
  · have := fz o; go_simp
theorem AD.lo_ {w W : World} {f : Int} {hi lo : Nat} (h : AD w f hi lo W) (x : Nat) : AD w f hi x (W.setCell ⟨w.heap.size + 1, 2, none⟩ (.int .u64 x)) := by
  obtain ⟨r0, r1, r2, rf, c0, c1, c2, fz, lt, bl⟩ := h
  refine ⟨by go_simp, by go_simp, by go_simp, fun o => ?_, by go_simp, by go_simp, by go_simp, fun o => ?_, by simpa using lt, bl.setCell (p := ⟨w.heap.size + 1, 2, none⟩) (by simp) _⟩
  · have := rf o; go_simp
  · have := fz o; go_simp
theorem AD.drew {w W : World} {f : Int} {hi lo : Nat} (h : AD w f hi lo W) : AD w f hi lo W.drew := by
  obtain ⟨r0, r1, r2, rf, c0, c1, c2, fz, lt, bl⟩ := h
  exact ⟨r0, r1, r2, rf, c0, c1, c2, fz, lt, bl.drew⟩
theorem AD.fam {w W : World} {f : Int} {hi lo : Nat} (h : AD w f hi lo W) (g : Int) : AD w g hi lo (W.setCell ⟨w.heap.size + 1, 0, none⟩ (.int .i64 g)) := by
  obtain ⟨r0, r1, r2, rf, c0, c1, c2, fz, lt, bl⟩ := h
  refine ⟨by go_simp, by go_simp, by go_simp, fun o => ?_, by go_simp, by go_simp, by go_simp, fun o => ?_, by simpa using lt, bl.setCell (p := ⟨w.heap.size + 1, 0, none⟩) (by simp) _⟩
  · have := rf o; go_simp
  · have := fz o; go_simp
theorem AD.tell {w W : World} {f : Int} {hi lo : Nat} (h : AD w f hi lo W) : AT w f hi lo (((W.setCell ⟨w.heap.size, 0, none⟩ (.int .i64 f)).setCell ⟨w.heap.size, 1, none⟩ (.int .u64 hi)).setCell ⟨w.heap.size, 2, none⟩ (.int .u64 lo)) := by
  obtain ⟨r0, r1, r2, rf, c0, c1, c2, fz, lt, bl⟩ := h
  exact ⟨by go_simp, by go_simp, by go_simp, ((bl.setCell (p := ⟨w.heap.size, 0, none⟩) (Nat.le_refl _) _).setCell (p := ⟨w.heap.size, 1, none⟩) (Nat.le_refl _) _).setCell (p := ⟨w.heap.size, 2, none⟩) (Nat.le_refl _) _⟩
theorem AD.new (w : World) (f : Int) (t t' : TypeId) : AD w f 0 0 ((w.alloc (.cells #[.int .i64 0, .int .u64 0, .int .u64 0] t)).alloc (.cells #[.int .i64 f, .int .u64 0, .int .u64 0] t')) :=
  ⟨by go_simp, by go_simp, by go_simp, fun o => by go_simp, by go_simp, by go_simp, by go_simp, fun o => by go_simp, by simp, two _ _ _⟩
theorem ofB_take {l : List UInt8} {k : Nat} (h : k < l.length) : ofB (l.take (k + 1)) = ofB (l.take k) * 256 + l[k].toNat := by
  rw [List.take_add_one, List.getElem?_eq_getElem h]
  exact ofB_snoc _ _
theorem ofB_take_lt {l : List UInt8} {k : Nat} (h : k ≤ 15) : ofB (l.take k) < 1329227995784915872903807060280344576 := by
  have h1 := ofB_lt (l.take k)
  have h2 : (l.take k).length ≤ 15 := by rw [List.length_take]; omega
  exact Nat.lt_of_lt_of_le h1 (Nat.le_trans (Nat.pow_le_pow_right (by omega) h2) (by decide))

set_option maxRecDepth 20000 in
set_option maxHeartbeats 2000000 in
theorem raddr_in (l : List UInt8) (A : Option Addr) (c n : Nat) (f : Int) (hn : n ≤ 16) (HN : Hid (l.length = n)) (hf : (n = 4 ∧ f = 4) ∨ (n ≠ 4 ∧ f = 6)) (w : World) (ha : Shows cel w w.heap.size A l) :
    Calls Tryz.prog 280 #[.slice A n c] w fun e w' => e = .returned (.agg #[.int .i64 f, .int .u64 ((ofB l / 18446744073709551616 : Nat) : Int), .int .u64 ((ofB l % 18446744073709551616 : Nat) : Int)]) ∧ Below w.heap.size w w' := by
  obtain ⟨X, hX⟩ : ∃ x, ofB l / 18446744073709551616 = x := ⟨_, rfl⟩
  obtain ⟨Y, hY⟩ : ∃ x, ofB l % 18446744073709551616 = x := ⟨_, rfl⟩
  rw [hX, hY]
  have HX := Lib.hid hX
  have HY := Lib.hid hY
  clear hX hY
  rcases hf with ⟨h4, rfl⟩ | ⟨h4, rfl⟩
  · have h4' := AD.new w 4 88 88
    have i0 : ((n : Int) == 4) = true := by rw [beq_iff_eq]; omega
    clear h4
    go_enter Tryz.func280, Tryz.ntmps280
    go_wp2
    go_loopw [4] (fun i wr => ∃ k : Nat, k ≤ n ∧ i = .int .i64 (k : Int) ∧ AD w 4 (ofB (l.take k) / 18446744073709551616) (ofB (l.take k) % 18446744073709551616) wr) (fun i _ => n - (intOf i).toNat)
    case atStart => exact ⟨0, Nat.zero_le _, rfl, by rw [List.take_zero]; exact h4'⟩
    case round =>
      obtain ⟨k, hk, rfl, hR⟩ := hrel
      clear h4'
      by_cases hlt : k < n
      · have hkl : k < l.length := by rw [HN.out]; exact hlt
        obtain ⟨b, o, rfl, hb2, hc⟩ := (ha.below hR.bl).at_ hkl
        have hst := ofB_take hkl
        have hN15 := ofB_take_lt (l := l) (k := k) (by omega)
        obtain ⟨N, hN⟩ : ∃ N, ofB (l.take k) = N := ⟨_, rfl⟩
        obtain ⟨u, hu⟩ : ∃ u : Nat, (l[k]'hkl).toNat = u := ⟨_, rfl⟩
        have hu2 : u < 256 := by rw [← hu]; exact UInt8.toNat_lt _
        unfold cel at hc
        rw [hu] at hc hst
        rw [hN] at hst hN15 hR
        obtain ⟨y1, y2⟩ := nx8 N u hu2
        have HST := Lib.hid hst
        obtain ⟨hi, hhi⟩ : ∃ hi, N / 18446744073709551616 = hi := ⟨_, rfl⟩
        obtain ⟨lo, hlo⟩ : ∃ lo, N % 18446744073709551616 = lo := ⟨_, rfl⟩
        have b1 : hi < 72057594037927936 := by omega
        have b2 : lo < 18446744073709551616 := by omega
        rw [hhi, hlo] at hR y1
        rw [hlo] at y2
        clear hst hN hu hhi hlo
        obtain ⟨q, hq⟩ : ∃ q, lo / 72057594037927936 = q := ⟨_, rfl⟩
        obtain ⟨r, hr⟩ : ∃ r, lo % 72057594037927936 = r := ⟨_, rfl⟩
        rw [hq] at y1
        rw [hr] at y2
        have bq : q < 256 := by omega
        have br : r < 72057594037927936 := by omega
        obtain ⟨M, hM⟩ : ∃ M, hi * 256 + q = M := ⟨_, rfl⟩
        obtain ⟨L, hL⟩ : ∃ L, r * 256 + u = L := ⟨_, rfl⟩
        have o3 := or8 hi q bq b1
        have o5 := or8 r u hu2 br
        have s4 := sl8 lo
        rw [hM] at y1 o3
        rw [hL] at y2 o5
        rw [hr] at s4
        have e1 : IntKind.u64.wrap ((hi : Int) * 256) = (hi : Int) * 256 := by rw [sh8 hi b1]; simp
        have e2 : (lo : Int) / 72057594037927936 = (q : Int) := by omega
        have e3 : bits .or .u64 ((hi : Int) * 256) (q : Int) = (M : Int) := by rwa [Int.natCast_mul] at o3
        have e4 : IntKind.u64.wrap ((lo : Int) * 256) = (r : Int) * 256 := by rw [s4]; simp
        have e5 : bits .or .u64 ((r : Int) * 256) (u : Int) = (L : Int) := by rwa [Int.natCast_mul] at o5
        have Y1 := Lib.hid y1
        have Y2 := Lib.hid y2
        clear hq hr hM hL o3 o5 s4 y1 y2
        have i1 : (k : Int) < (n : Int) := by omega
        have hR2 := hR
        obtain ⟨r0, r1, r2, rf, c0, c1, c2, fz, lt, bl⟩ := hR
        have hR3 := hR2.hi_ M
        have hc' := (hR3.bl.cell (p := ⟨b, o + k, none⟩) hb2).trans ((hR2.bl.cell (p := ⟨b, o + k, none⟩) hb2).symm.trans hc)
        obtain ⟨-, -, -, -, c0', c1', c2', fz', -, -⟩ := hR3
        go_wp2
        go_region
        go_wp2
        go_roundw
        case rel => exact ⟨k + 1, by omega, by go_num, by rw [HST.out, Y1.out, Y2.out]; exact (hR2.hi_ _).drew.lo_ _⟩
        case measure => simp [intOf]; omega
      · obtain rfl : k = n := by omega
        have i1 : ¬ (k : Int) < (k : Int) := by omega
        rw [List.take_of_length_le (by rw [HN.out]; exact Nat.le_refl _), HX.out, HY.out] at hR
        have hx := hR.tell
        obtain ⟨r0, r1, r2, rf, c0, c1, c2, fz, lt, bl⟩ := hR
        go_wp2
        clear c0 c1 c2
        obtain ⟨c0, c1, c2, bl⟩ := hx
        exact bodyPost_ret (v := .agg #[.int .i64 4, .int .u64 (X : Int), .int .u64 (Y : Int)]) (by simp [results, Tryz.results280, go_sem, c0, c1, c2]) rfl ⟨rfl, bl⟩
  · have h6 := AD.new w 6 88 88
    have i0 : ((n : Int) == 4) = false := by rw [beq_eq_false_iff_ne]; omega
    clear h4
    go_enter Tryz.func280, Tryz.ntmps280
    go_wp2
    go_loopw [4] (fun i wr => ∃ k : Nat, k ≤ n ∧ i = .int .i64 (k : Int) ∧ AD w 6 (ofB (l.take k) / 18446744073709551616) (ofB (l.take k) % 18446744073709551616) wr) (fun i _ => n - (intOf i).toNat)
    case atStart => exact ⟨0, Nat.zero_le _, rfl, by rw [List.take_zero]; exact h6⟩
    case round =>
      obtain ⟨k, hk, rfl, hR⟩ := hrel
      clear h6
      by_cases hlt : k < n
      · have hkl : k < l.length := by rw [HN.out]; exact hlt
        obtain ⟨b, o, rfl, hb2, hc⟩ := (ha.below hR.bl).at_ hkl
        have hst := ofB_take hkl
        have hN15 := ofB_take_lt (l := l) (k := k) (by omega)
        obtain ⟨N, hN⟩ : ∃ N, ofB (l.take k) = N := ⟨_, rfl⟩
        obtain ⟨u, hu⟩ : ∃ u : Nat, (l[k]'hkl).toNat = u := ⟨_, rfl⟩
        have hu2 : u < 256 := by rw [← hu]; exact UInt8.toNat_lt _
        unfold cel at hc
        rw [hu] at hc hst
        rw [hN] at hst hN15 hR
        obtain ⟨y1, y2⟩ := nx8 N u hu2
        have HST := Lib.hid hst
        obtain ⟨hi, hhi⟩ : ∃ hi, N / 18446744073709551616 = hi := ⟨_, rfl⟩
        obtain ⟨lo, hlo⟩ : ∃ lo, N % 18446744073709551616 = lo := ⟨_, rfl⟩
        have b1 : hi < 72057594037927936 := by omega
        have b2 : lo < 18446744073709551616 := by omega
        rw [hhi, hlo] at hR y1
        rw [hlo] at y2
        clear hst hN hu hhi hlo
        obtain ⟨q, hq⟩ : ∃ q, lo / 72057594037927936 = q := ⟨_, rfl⟩
        obtain ⟨r, hr⟩ : ∃ r, lo % 72057594037927936 = r := ⟨_, rfl⟩
        rw [hq] at y1
        rw [hr] at y2
        have bq : q < 256 := by omega
        have br : r < 72057594037927936 := by omega
        obtain ⟨M, hM⟩ : ∃ M, hi * 256 + q = M := ⟨_, rfl⟩
        obtain ⟨L, hL⟩ : ∃ L, r * 256 + u = L := ⟨_, rfl⟩
        have o3 := or8 hi q bq b1
        have o5 := or8 r u hu2 br
        have s4 := sl8 lo
        rw [hM] at y1 o3
        rw [hL] at y2 o5
        rw [hr] at s4
        have e1 : IntKind.u64.wrap ((hi : Int) * 256) = (hi : Int) * 256 := by rw [sh8 hi b1]; simp
        have e2 : (lo : Int) / 72057594037927936 = (q : Int) := by omega
        have e3 : bits .or .u64 ((hi : Int) * 256) (q : Int) = (M : Int) := by rwa [Int.natCast_mul] at o3
        have e4 : IntKind.u64.wrap ((lo : Int) * 256) = (r : Int) * 256 := by rw [s4]; simp
        have e5 : bits .or .u64 ((r : Int) * 256) (u : Int) = (L : Int) := by rwa [Int.natCast_mul] at o5
        have Y1 := Lib.hid y1
        have Y2 := Lib.hid y2
        clear hq hr hM hL o3 o5 s4 y1 y2
        have i1 : (k : Int) < (n : Int) := by omega
        have hR2 := hR
        obtain ⟨r0, r1, r2, rf, c0, c1, c2, fz, lt, bl⟩ := hR
        have hR3 := hR2.hi_ M
        have hc' := (hR3.bl.cell (p := ⟨b, o + k, none⟩) hb2).trans ((hR2.bl.cell (p := ⟨b, o + k, none⟩) hb2).symm.trans hc)
        obtain ⟨-, -, -, -, c0', c1', c2', fz', -, -⟩ := hR3
        go_wp2
        go_region
        go_wp2
        go_roundw
        case rel => exact ⟨k + 1, by omega, by go_num, by rw [HST.out, Y1.out, Y2.out]; exact (hR2.hi_ _).drew.lo_ _⟩
        case measure => simp [intOf]; omega
      · obtain rfl : k = n := by omega
        have i1 : ¬ (k : Int) < (k : Int) := by omega
        rw [List.take_of_length_le (by rw [HN.out]; exact Nat.le_refl _), HX.out, HY.out] at hR
        have hx := hR.tell
        obtain ⟨r0, r1, r2, rf, c0, c1, c2, fz, lt, bl⟩ := hR
        go_wp2
        clear c0 c1 c2
        obtain ⟨c0, c1, c2, bl⟩ := hx
        exact bodyPost_ret (v := .agg #[.int .i64 6, .int .u64 (X : Int), .int .u64 (Y : Int)]) (by simp [results, Tryz.results280, go_sem, c0, c1, c2]) rfl ⟨rfl, bl⟩

end Go.Proofs.YtpkmekdpmkfcdaaGreatDoor.Pf

namespace Go.Proofs.YtpkmekdpmkfcdaaGreatDoor.Pf
open Go.RowKit Go.Proofs.YtpkmekdpmkfcdaaGreatDoor.Wd Go.Proofs.YtpkmekdpmkfcdaaGreatDoor.Px Go.Proofs.YtpkmekdpmkfcdaaGreatDoor.By Go.Proofs.YtpkmekdpmkfcdaaGreatDoor.En Go.Proofs.YtpkmekdpmkfcdaaGreatDoor.Pl

theorem dgt_lt (x : Int) : dgt x < 16 := by unfold dgt; split <;> (try split) <;> omega
theorem rdN_range {base : Int} (hb : 2 ≤ base) (hb2 : base ≤ 16) : ∀ (l : List UInt8) (n : Int) (M : Nat), 0 ≤ n → n < M → -1 ≤ rdN base n l ∧ rdN base n l < (M * 16 ^ l.length : Nat)
  | [], n, M, h0, h1 => by simp [rdN]; omega
  | c :: r, n, M, h0, h1 => by
    have hp : 0 < 16 ^ (c :: r).length := Nat.pow_pos (by omega)
    have hM : 0 < M := by omega
    rw [rdN]
    split
    · have : 0 < M * 16 ^ (c :: r).length := Nat.mul_pos hM hp
      omega
    · rename_i h
      have hd := dgt_lt (c.toNat : Int)
      have hmul : n * base ≤ n * 16 := Int.mul_le_mul_of_nonneg_left hb2 h0
      have hmul0 : 0 ≤ n * base := Int.mul_nonneg h0 (by omega)
      have := rdN_range hb hb2 r (n * base + dgt (c.toNat : Int)) (M * 16) (by omega) (by push_cast; omega)
      rw [List.length_cons, Nat.pow_succ, Nat.mul_comm (16 ^ r.length), ← Nat.mul_assoc]
      exact this
theorem numN_range {base : Int} (hb : 2 ≤ base) (hb2 : base ≤ 16) (t : List UInt8) : -1 ≤ numN base t ∧ numN base t < 65536 := by
  unfold numN
  split
  · omega
  · rename_i h
    have := rdN_range hb hb2 t 0 1 (Int.le_refl _) (by omega)
    have hp : 16 ^ t.length ≤ 16 ^ 4 := Nat.pow_le_pow_right (by omega) (by omega)
    omega
theorem number_as {x : List UInt8} {base N : Int} (h : Hid (numN base x = N)) (hb : 2 ≤ base) (hb2 : base ≤ 16) (w : World) :
    Calls Tryz.prog 232 #[.string ⟨x.toArray⟩, .int .i64 base] w fun e w' => e = .returned (.int .i64 N) ∧ w' = w := by
  have := number_any x base hb hb2 w
  rwa [h.out] at this
/-- an address's block: zero, and to be written -/
structure AS (w W : World) : Prop where
  c0 : W.cell? ⟨w.heap.size, 0, none⟩ = some (.int .i64 0)
  c1 : W.cell? ⟨w.heap.size, 1, none⟩ = some (.int .u64 0)
  c2 : W.cell? ⟨w.heap.size, 2, none⟩ = some (.int .u64 0)
  fz : ∀ o, W.frozen? ⟨w.heap.size, o, none⟩ = false
  lt : w.heap.size < W.heap.size
  bl : Below w.heap.size w W
theorem AS.new (w : World) (t : TypeId) : AS w (w.alloc (.cells #[.int .i64 0, .int .u64 0, .int .u64 0] t)) :=
  ⟨by go_simp, by go_simp, by go_simp, fun o => by go_simp, by simp, one _ _⟩
theorem AS.on {w W W' : World} (h : AS w W) (hb : Below W.heap.size W W') : AS w W' :=
  ⟨keepc hb h.c0, keepc hb h.c1, keepc hb h.c2, keepf hb h.lt h.fz, Nat.lt_of_lt_of_le h.lt hb.size, h.bl.trans (hb.mono h.bl.size)⟩
theorem AS.tell {w W : World} (h : AS w W) (f hi lo : Int) : AT w f hi lo (((W.setCell ⟨w.heap.size, 0, none⟩ (.int .i64 f)).setCell ⟨w.heap.size, 1, none⟩ (.int .u64 hi)).setCell ⟨w.heap.size, 2, none⟩ (.int .u64 lo)) := by
  obtain ⟨c0, c1, c2, fz, lt, bl⟩ := h
  exact ⟨by go_simp, by go_simp, by go_simp, ((bl.setCell (p := ⟨w.heap.size, 0, none⟩) (Nat.le_refl _) _).setCell (p := ⟨w.heap.size, 1, none⟩) (Nat.le_refl _) _).setCell (p := ⟨w.heap.size, 2, none⟩) (Nat.le_refl _) _⟩
theorem rparts_as {t : List UInt8} {c : UInt8} {ls : List (List UInt8)} (h : Hid (split c t = ls)) (ht : t.length ≤ 1000) (w : World) :
    Calls Tryz.prog 230 #[.string ⟨t.toArray⟩, .int .u8 (c.toNat : Int)] w fun e w' => ∃ A k, e = .returned (.slice A ls.length k) ∧ Shows strc w' w'.heap.size A ls ∧ Below w.heap.size w w' := by
  refine (rparts_any t c ht w).mono ?_
  rintro e w' ⟨v, rfl, hown, hb⟩
  rw [h.out] at hown
  obtain ⟨A, k, rfl⟩ := own_slice hown
  exact ⟨A, k, rfl, Shows.of_own hown, hb⟩
theorem raddr_as {l : List UInt8} {n : Nat} {f : Int} {X Y : Nat} (HN : Hid (l.length = n)) (hf : (n = 4 ∧ f = 4) ∨ (n = 16 ∧ f = 6)) (HX : Hid (ofB l / 18446744073709551616 = X)) (HY : Hid (ofB l % 18446744073709551616 = Y)) {base : Nat} {v : Value} (w : World) (hown : w.ownsRow base 5 1 v n (l.map cel)) :
    Calls Tryz.prog 280 #[v] w fun e w' => e = .returned (.agg #[.int .i64 f, .int .u64 (X : Int), .int .u64 (Y : Int)]) ∧ Below w.heap.size w w' := by
  have hl := HN.out
  subst hl
  obtain ⟨A, c, rfl⟩ := own_slice hown
  rw [← HX.out, ← HY.out]
  exact raddr_in l A c l.length f (by omega) (Lib.hid rfl) (by omega) w (own_shows hown)

set_option maxRecDepth 20000 in
set_option maxHeartbeats 2000000 in
theorem guess_4 (t : List UInt8) (ht : t.length ≤ 1000) (w : World) (ls : List (List UInt8)) (HS : Hid (split 46 t = ls)) (HM : Hid (ls.length = 4)) (X Y : Nat) (HX : Hid (ofB (gs4 ls) / 18446744073709551616 = X)) (HY : Hid (ofB (gs4 ls) % 18446744073709551616 = Y)) :
    Calls Tryz.prog 260 #[.string ⟨t.toArray⟩] w fun e w' => e = .returned (.agg #[.int .i64 4, .int .u64 (X : Int), .int .u64 (Y : Int)]) ∧ Below w.heap.size w w' := by
  obtain ⟨inf, hi0, hz0, hz1, hz2⟩ := info_parts Tryz.infoB
  have hs0 := AS.new w 88
  go_enter Tryz.func260, Tryz.ntmps260
  go_wp2_with fail
  refine (rparts_as (c := 46) HS ht _).mono ?_
  rintro e w1 ⟨A, k1, rfl, hs1, hb1⟩
  have hs2 := hs0.on hb1
  rw [HM.out]
  clear hs0 hb1
  go_wp2
  go_loopw [3, 5] (fun v i wr => ∃ k : Nat, k ≤ 4 ∧ i = .int .i64 (k : Int) ∧ wr.ownsRow w1.heap.size 5 1 v k ((gs4 (ls.take k)).map cel) ∧ Below w1.heap.size w1 wr) (fun _ i _ => 4 - (intOf i).toNat)
  case atStart => exact ⟨0, Nat.zero_le _, rfl, by rw [List.take_zero]; exact World.ownsRow_nil _ _ _ _, Below.refl _ _⟩
  case round =>
    obtain ⟨k, hk, rfl, hown, hbk⟩ := hrel
    have hs := hs1.below hbk
    by_cases hlt : k < 4
    · have hkl : k < ls.length := by rw [HM.out]; omega
      obtain ⟨b, o, rfl, hb2, hc⟩ := hs.at_ hkl
      have hsn := gs4_take ls k hkl
      obtain ⟨x, hx⟩ : ∃ x, ls[k]'hkl = x := ⟨_, rfl⟩
      rw [hx] at hc hsn
      obtain ⟨N, hN⟩ : ∃ N, numN 10 x = N := ⟨_, rfl⟩
      have hr := numN_range (base := 10) (by omega) (by omega) x
      rw [hN] at hsn hr
      obtain ⟨hr0, hr1⟩ := hr
      have HNN := Lib.hid hN
      unfold strc at hc
      have HSN := Lib.hid hsn
      clear hsn hx hN hkl
      have i1 : (k : Int) < 4 := by omega
      go_wp2_with fail
      refine (number_as HNN (by omega) (by omega) _).mono ?_
      rintro e w2 ⟨rfl, rfl⟩
      go_wp2_with (at_builtin; go_loud (refine wpList_append_own _ rfl _ _ 85 rfl w1.heap.size 5 inf (.int .u8 0) 1 1 Tryz.underlying85 hi0 hz0 hz1 hz2 rfl (by decide) _ _ _ rfl (hown.alloc _) ⟨w2.heap.size, 0, none⟩ 1 1 [.int .u8 (N % 256)] rfl rfl (cell_one_new _ _ _) ?c2 ?c3 ?c4 ?c5 ?_))
      case c2 => intro u hu; simp at hu; subst hu; rfl
      case c3 => unfold maxLen; omega
      case c4 => omega
      case c5 => have := hbk.size; simp; omega
      intro v' w3 hown' hgrow _
      have hbk3 := (hbk.alloc hbk.size _).grown hgrow (by have := hbk.size; simp; omega) (fun j hj => (hown.lt j hj).1)
      clear hown hgrow hbk
      go_wp2
      go_roundw
      case rel => exact ⟨k + 1, by omega, by go_num, by rw [HSN.out, List.map_append, List.map_singleton, cel_by8, IntKind.wrap_u8]; exact hown', hbk3⟩
      case measure => simp [intOf]; omega
    · obtain rfl : k = 4 := by omega
      have hs3 := hs2.on hbk
      rw [List.take_of_length_le (by rw [HM.out]; exact Nat.le_refl _)] at hown
      go_wp2_with fail
      refine (raddr_as (Lib.hid (by show (List.map _ ls).length = _; rw [List.length_map, HM.out])) (.inl ⟨rfl, rfl⟩) HX HY _ hown).mono ?_
      rintro e w4 ⟨rfl, hb4⟩
      have hs4 := hs3.on hb4
      have hx := hs4.tell 4 (X : Int) (Y : Int)
      obtain ⟨c0, c1, c2, fz, lt, bl⟩ := hs4
      clear hs3 hb4 hown hs
      go_wp2
      clear c0 c1 c2
      obtain ⟨c0, c1, c2, bl⟩ := hx
      exact bodyPost_ret (v := .agg #[.int .i64 4, .int .u64 (X : Int), .int .u64 (Y : Int)]) (by simp [results, Tryz.results260, go_sem, c0, c1, c2]) rfl ⟨rfl, bl⟩

set_option maxRecDepth 20000 in
set_option maxHeartbeats 2000000 in
theorem guess_6 (t : List UInt8) (ht : t.length ≤ 1000) (w : World) (l4 ls : List (List UInt8)) (HS4 : Hid (split 46 t = l4)) (n4 m : Nat) (HM4 : Hid (l4.length = n4)) (hn4 : n4 ≠ 4) (HS : Hid (split 58 t = ls)) (HM : Hid (ls.length = m)) (h8 : 8 ≤ m) (hm : m ≤ 1001) (X Y : Nat) (HX : Hid (ofB (gs6 (ls.take 8)) / 18446744073709551616 = X)) (HY : Hid (ofB (gs6 (ls.take 8)) % 18446744073709551616 = Y)) :
    Calls Tryz.prog 260 #[.string ⟨t.toArray⟩] w fun e w' => e = .returned (.agg #[.int .i64 6, .int .u64 (X : Int), .int .u64 (Y : Int)]) ∧ Below w.heap.size w w' := by
  obtain ⟨inf, hi0, hz0, hz1, hz2⟩ := info_parts Tryz.infoB
  have hs0 := AS.new w 88
  have i0 : ((n4 : Int) == 4) = false := by rw [beq_eq_false_iff_ne]; omega
  go_enter Tryz.func260, Tryz.ntmps260
  go_wp2_with fail
  refine (rparts_as (c := 46) HS4 ht _).mono ?_
  rintro e w0 ⟨A0, k0, rfl, -, hb0⟩
  have hs00 := hs0.on hb0
  rw [HM4.out]
  go_wp2_with fail
  refine (rparts_as (c := 58) HS ht _).mono ?_
  rintro e w1 ⟨A, k1, rfl, hs1, hb1⟩
  have hs2 := hs00.on hb1
  rw [HM.out]
  clear hs0 hb1 hs00 hb0
  go_wp2
  go_loopw [3, 7] (fun v i wr => ∃ k : Nat, k ≤ 8 ∧ i = .int .i64 (k : Int) ∧ wr.ownsRow w1.heap.size 5 1 v (2 * k) ((gs6 (ls.take k)).map cel) ∧ Below w1.heap.size w1 wr) (fun _ i _ => 8 - (intOf i).toNat)
  case atStart => exact ⟨0, Nat.zero_le _, rfl, by rw [List.take_zero]; exact World.ownsRow_nil _ _ _ _, Below.refl _ _⟩
  case round =>
    obtain ⟨k, hk, rfl, hown, hbk⟩ := hrel
    have hs := hs1.below hbk
    by_cases hlt : k < 8
    · have hkl : k < ls.length := by rw [HM.out]; omega
      obtain ⟨b, o, rfl, hb2, hc⟩ := hs.at_ hkl
      have hsn := gs6_take ls k hkl
      obtain ⟨x, hx⟩ : ∃ x, ls[k]'hkl = x := ⟨_, rfl⟩
      rw [hx] at hc hsn
      obtain ⟨N, hN⟩ : ∃ N, numN 16 x = N := ⟨_, rfl⟩
      have hr := numN_range (base := 16) (by omega) (by omega) x
      rw [hN] at hsn hr
      obtain ⟨hr0, hr1⟩ := hr
      have HNN := Lib.hid hN
      unfold strc at hc
      have HSN := Lib.hid hsn
      clear hsn hx hN hkl
      have i1 : (k : Int) < (m : Int) := by omega
      have i2 : (k : Int) < 8 := by omega
      have hq : -1 ≤ N.tdiv 256 ∧ N.tdiv 256 ≤ 65535 := by
        by_cases hneg : N = -1
        · subst hneg; decide
        · rw [Int.tdiv_eq_ediv_of_nonneg (by omega)]; omega
      obtain ⟨hq0, hq1⟩ := hq
      have iq : IntKind.i64.wrap (N.tdiv 256) = N.tdiv 256 := IntWalk.i64_in _ ⟨by omega, by omega⟩
      go_wp2_with fail
      refine (number_as HNN (by omega) (by omega) _).mono ?_
      rintro e w2 ⟨rfl, rfl⟩
      go_wp2_with (at_builtin; go_loud (refine wpList_append_own _ rfl _ _ 85 rfl w1.heap.size 5 inf (.int .u8 0) 1 1 Tryz.underlying85 hi0 hz0 hz1 hz2 rfl (by decide) _ _ _ rfl (hown.alloc _) ⟨w2.heap.size, 0, none⟩ 2 2 [.int .u8 (N.tdiv 256 % 256), .int .u8 (N % 256)] rfl rfl (cells_new _ #[_, _] _) ?c2 ?c3 ?c4 ?c5 ?_))
      case c2 => intro u hu; simp at hu; rcases hu with rfl | rfl <;> rfl
      case c3 => unfold maxLen; omega
      case c4 => omega
      case c5 => have := hbk.size; simp; omega
      intro v' w3 hown' hgrow _
      have hbk3 := (hbk.alloc hbk.size _).grown hgrow (by have := hbk.size; simp; omega) (fun j hj => (hown.lt j hj).1)
      clear hown hgrow hbk
      go_wp2
      go_roundw
      case rel => exact ⟨k + 1, by omega, by go_num, by rw [HSN.out, List.map_append, List.map_cons, List.map_cons, List.map_nil, cel_by8, cel_by8, IntKind.wrap_u8, IntKind.wrap_u8]; exact hown', hbk3⟩
      case measure => simp [intOf]; omega
    · obtain rfl : k = 8 := by omega
      have hs3 := hs2.on hbk
      have j1 : ¬ ((8 : Nat) : Int) < 8 := by omega
      have HL16 : Hid ((gs6 (ls.take 8)).length = 16) := Lib.hid (by rw [gs6_len, List.length_take, HM.out]; omega)
      obtain ⟨Av, cv, rfl⟩ := own_slice hown
      by_cases hm8 : m = 8
      all_goals
        go_wp2_with fail
        refine (raddr_as HL16 (.inr ⟨rfl, rfl⟩) HX HY _ hown).mono ?_
        rintro e w4 ⟨rfl, hb4⟩
        have hs4 := hs3.on hb4
        have hx := hs4.tell 6 (X : Int) (Y : Int)
        obtain ⟨c0, c1, c2, fz, lt, bl⟩ := hs4
        clear hs3 hb4 hown hs
        go_wp2
        clear c0 c1 c2
        obtain ⟨c0, c1, c2, bl⟩ := hx
        exact bodyPost_ret (v := .agg #[.int .i64 6, .int .u64 (X : Int), .int .u64 (Y : Int)]) (by simp [results, Tryz.results260, go_sem, c0, c1, c2]) rfl ⟨rfl, bl⟩

set_option maxRecDepth 20000 in
set_option maxHeartbeats 2000000 in
theorem guess_0 (t : List UInt8) (ht : t.length ≤ 1000) (w : World) (l4 ls : List (List UInt8)) (HS4 : Hid (split 46 t = l4)) (n4 m : Nat) (HM4 : Hid (l4.length = n4)) (hn4 : n4 ≠ 4) (HS : Hid (split 58 t = ls)) (HM : Hid (ls.length = m)) (h8 : m < 8) :
    Calls Tryz.prog 260 #[.string ⟨t.toArray⟩] w fun e w' => e = .returned (.agg #[.int .i64 0, .int .u64 0, .int .u64 0]) ∧ Below w.heap.size w w' := by
  obtain ⟨inf, hi0, hz0, hz1, hz2⟩ := info_parts Tryz.infoB
  have hs0 := AS.new w 88
  have i0 : ((n4 : Int) == 4) = false := by rw [beq_eq_false_iff_ne]; omega
  go_enter Tryz.func260, Tryz.ntmps260
  go_wp2_with fail
  refine (rparts_as (c := 46) HS4 ht _).mono ?_
  rintro e w0 ⟨A0, k0, rfl, -, hb0⟩
  have hs00 := hs0.on hb0
  rw [HM4.out]
  go_wp2_with fail
  refine (rparts_as (c := 58) HS ht _).mono ?_
  rintro e w1 ⟨A, k1, rfl, hs1, hb1⟩
  have hs2 := hs00.on hb1
  rw [HM.out]
  clear hs0 hb1 hs00 hb0
  go_wp2
  go_loopw [3, 7] (fun v i wr => ∃ k : Nat, k ≤ m ∧ i = .int .i64 (k : Int) ∧ wr.ownsRow w1.heap.size 5 1 v (2 * k) ((gs6 (ls.take k)).map cel) ∧ Below w1.heap.size w1 wr) (fun _ i _ => m - (intOf i).toNat)
  case atStart => exact ⟨0, Nat.zero_le _, rfl, by rw [List.take_zero]; exact World.ownsRow_nil _ _ _ _, Below.refl _ _⟩
  case round =>
    obtain ⟨k, hk, rfl, hown, hbk⟩ := hrel
    have hs := hs1.below hbk
    by_cases hlt : k < m
    · have hkl : k < ls.length := by rw [HM.out]; omega
      obtain ⟨b, o, rfl, hb2, hc⟩ := hs.at_ hkl
      have hsn := gs6_take ls k hkl
      obtain ⟨x, hx⟩ : ∃ x, ls[k]'hkl = x := ⟨_, rfl⟩
      rw [hx] at hc hsn
      obtain ⟨N, hN⟩ : ∃ N, numN 16 x = N := ⟨_, rfl⟩
      have hr := numN_range (base := 16) (by omega) (by omega) x
      rw [hN] at hsn hr
      obtain ⟨hr0, hr1⟩ := hr
      have HNN := Lib.hid hN
      unfold strc at hc
      have HSN := Lib.hid hsn
      clear hsn hx hN hkl
      have i1 : (k : Int) < (m : Int) := by omega
      have i2 : (k : Int) < 8 := by omega
      have hq : -1 ≤ N.tdiv 256 ∧ N.tdiv 256 ≤ 65535 := by
        by_cases hneg : N = -1
        · subst hneg; decide
        · rw [Int.tdiv_eq_ediv_of_nonneg (by omega)]; omega
      obtain ⟨hq0, hq1⟩ := hq
      have iq : IntKind.i64.wrap (N.tdiv 256) = N.tdiv 256 := IntWalk.i64_in _ ⟨by omega, by omega⟩
      go_wp2_with fail
      refine (number_as HNN (by omega) (by omega) _).mono ?_
      rintro e w2 ⟨rfl, rfl⟩
      go_wp2_with (at_builtin; go_loud (refine wpList_append_own _ rfl _ _ 85 rfl w1.heap.size 5 inf (.int .u8 0) 1 1 Tryz.underlying85 hi0 hz0 hz1 hz2 rfl (by decide) _ _ _ rfl (hown.alloc _) ⟨w2.heap.size, 0, none⟩ 2 2 [.int .u8 (N.tdiv 256 % 256), .int .u8 (N % 256)] rfl rfl (cells_new _ #[_, _] _) ?c2 ?c3 ?c4 ?c5 ?_))
      case c2 => intro u hu; simp at hu; rcases hu with rfl | rfl <;> rfl
      case c3 => unfold maxLen; omega
      case c4 => omega
      case c5 => have := hbk.size; simp; omega
      intro v' w3 hown' hgrow _
      have hbk3 := (hbk.alloc hbk.size _).grown hgrow (by have := hbk.size; simp; omega) (fun j hj => (hown.lt j hj).1)
      clear hown hgrow hbk
      go_wp2
      go_roundw
      case rel => exact ⟨k + 1, by omega, by go_num, by rw [HSN.out, List.map_append, List.map_cons, List.map_cons, List.map_nil, cel_by8, cel_by8, IntKind.wrap_u8, IntKind.wrap_u8]; exact hown', hbk3⟩
      case measure => simp [intOf]; omega
    · obtain rfl : k = m := by omega
      have hs3 := hs2.on hbk
      have j1 : ¬ (k : Int) < (k : Int) := by omega
      obtain ⟨Av, cv, rfl⟩ := own_slice hown
      have j2 : ((2 : Int) * (k : Int) == 16) = false := by rw [beq_eq_false_iff_ne]; omega
      have hx := hs3.tell 0 0 0
      obtain ⟨c0, c1, c2, fz, lt, bl⟩ := hs3
      clear hown hs
      go_wp2
      clear c0 c1 c2
      obtain ⟨c0, c1, c2, bl⟩ := hx
      exact bodyPost_ret (v := .agg #[.int .i64 0, .int .u64 0, .int .u64 0]) (by simp [results, Tryz.results260, go_sem, c0, c1, c2]) rfl ⟨rfl, bl⟩

theorem guess_any (t : List UInt8) (ht : t.length ≤ 1000) (w : World) :
    Calls Tryz.prog 260 #[.string ⟨t.toArray⟩] w fun e w' => e = .returned (.agg #[.int .i64 (gsA t).1, .int .u64 (((gsA t).2 / 18446744073709551616 : Nat) : Int), .int .u64 (((gsA t).2 % 18446744073709551616 : Nat) : Int)]) ∧ Below w.heap.size w w' := by
  by_cases h4 : (split 46 t).length = 4
  · have e : gsA t = (4, ofB (gs4 (split 46 t))) := by unfold gsA; rw [if_pos h4]
    rw [e]
    exact guess_4 t ht w _ (Lib.hid rfl) (Lib.hid h4) _ _ (Lib.hid rfl) (Lib.hid rfl)
  · by_cases h8 : 8 ≤ (split 58 t).length
    · have e : gsA t = (6, ofB (gs6 ((split 58 t).take 8))) := by unfold gsA; rw [if_neg h4, if_pos h8]
      rw [e]
      exact guess_6 t ht w _ _ (Lib.hid rfl) _ _ (Lib.hid rfl) h4 (Lib.hid rfl) (Lib.hid rfl) h8 (by have := split_count 58 t; omega) _ _ (Lib.hid rfl) (Lib.hid rfl)
    · have e : gsA t = (0, 0) := by unfold gsA; rw [if_neg h4, if_neg h8]
      rw [e]
      exact guess_0 t ht w _ _ (Lib.hid rfl) _ _ (Lib.hid rfl) h4 (Lib.hid rfl) (Lib.hid rfl) (by omega)

end Go.Proofs.YtpkmekdpmkfcdaaGreatDoor.Pf

namespace Go.Proofs.YtpkmekdpmkfcdaaGreatDoor.Pf
open Go.RowKit Go.Proofs.YtpkmekdpmkfcdaaGreatDoor.Wd Go.Proofs.YtpkmekdpmkfcdaaGreatDoor.Px Go.Proofs.YtpkmekdpmkfcdaaGreatDoor.By Go.Proofs.YtpkmekdpmkfcdaaGreatDoor.En Go.Proofs.YtpkmekdpmkfcdaaGreatDoor.Pl

theorem guess_as {t : List UInt8} {f : Int} {hi lo : Nat} (h1 : Hid ((gsA t).1 = f)) (h2 : Hid ((gsA t).2 / 18446744073709551616 = hi)) (h3 : Hid ((gsA t).2 % 18446744073709551616 = lo)) (ht : t.length ≤ 1000) (w : World) :
    Calls Tryz.prog 260 #[.string ⟨t.toArray⟩] w fun e w' => e = .returned (.agg #[.int .i64 f, .int .u64 (hi : Int), .int .u64 (lo : Int)]) ∧ Below w.heap.size w w' := by
  have := guess_any t ht w
  rwa [h1.out, h2.out, h3.out] at this

set_option maxHeartbeats 1000000 in
theorem rpa_long (t : List UInt8) (ht : 39 < t.length) (ht2 : t.length ≤ 140737488355328) (w : World) :
    Calls Tryz.prog 231 #[.string ⟨t.toArray⟩] w fun e w' => e = .returned (ofA none) ∧ Below w.heap.size w w' := by
  go_enter Tryz.func231, Tryz.ntmps231
  go_wp2
  exact bodyPost_ret (v := .tuple #[.agg #[.int .i64 0, .int .u64 0, .int .u64 0], .int .i64 70]) (by simp [results, Tryz.results231, go_sem]) rfl ⟨rfl, one _ _⟩

set_option maxRecDepth 20000 in
set_option maxHeartbeats 2000000 in
theorem rpa_other (t : List UInt8) (ht : t.length ≤ 39) (w : World) (hE : Env w) (f : Int) (hi lo : Nat) (H1 : Hid ((gsA t).1 = f)) (H2 : Hid ((gsA t).2 / 18446744073709551616 = hi)) (H3 : Hid ((gsA t).2 % 18446744073709551616 = lo)) (hh : hi < 18446744073709551616) (hl : lo < 18446744073709551616)
    (p : List UInt8) (HT : Hid (prT f hi lo = p)) (HO : Hid (p ≠ t)) :
    Calls Tryz.prog 231 #[.string ⟨t.toArray⟩] w fun e w' => e = .returned (ofA none) ∧ Below w.heap.size w w' := by
  have hs := AS.new w 88
  have hz : (⟨t.toArray⟩ : ByteArray).size = t.length := rfl
  have HZ := Lib.hid hz
  clear hz
  go_enter Tryz.func231, Tryz.ntmps231
  go_wp2_with fail
  refine (guess_as H1 H2 H3 (by omega) _).mono ?_
  rintro e w1 ⟨rfl, hb1⟩
  have hs1 := hs.on hb1
  clear hs hb1
  have hs2 := hs1.on (one w1 (.cells #[.int .i64 f, .int .u64 (hi : Int), .int .u64 (lo : Int)] 88))
  obtain ⟨x0, x1, x2⟩ := adr_new w1 f (hi : Int) (lo : Int) 88
  go_wp2_with fail
  refine (rprintaddr_as HT _ (hE.on hs2.bl) hh hl).mono ?_
  rintro e w2 ⟨rfl, hb2⟩
  have hs3 := hs2.on hb2
  have y0 := keepc hb2 x0
  have y1 := keepc hb2 x1
  have y2 := keepc hb2 x2
  clear hs1 hs2 x0 x1 x2 hb2
  have hne : ¬ ((p == t) = true) := by simpa using HO.out
  have hx := hs3.tell 0 0 0
  obtain ⟨c0, c1, c2, fz, lt, bl⟩ := hs3
  go_wp2
  clear c0 c1 c2
  obtain ⟨c0, c1, c2, bl⟩ := hx
  exact bodyPost_ret (v := .tuple #[.agg #[.int .i64 0, .int .u64 0, .int .u64 0], .int .i64 70]) (by simp [results, Tryz.results231, go_sem, c0, c1, c2]) rfl ⟨rfl, bl⟩

set_option maxRecDepth 20000 in
set_option maxHeartbeats 2000000 in
theorem rpa_same (t : List UInt8) (ht : t.length ≤ 39) (w : World) (hE : Env w) (f : Int) (hi lo : Nat) (H1 : Hid ((gsA t).1 = f)) (H2 : Hid ((gsA t).2 / 18446744073709551616 = hi)) (H3 : Hid ((gsA t).2 % 18446744073709551616 = lo)) (hh : hi < 18446744073709551616) (hl : lo < 18446744073709551616)
    (p : List UInt8) (HT : Hid (prT f hi lo = p)) (HO : Hid (p = t)) (HNE : Hid (t ≠ [])) :
    Calls Tryz.prog 231 #[.string ⟨t.toArray⟩] w fun e w' => e = .returned (.tuple #[.agg #[.int .i64 f, .int .u64 (hi : Int), .int .u64 (lo : Int)], .int .i64 0]) ∧ Below w.heap.size w w' := by
  have hs := AS.new w 88
  have hz : (⟨t.toArray⟩ : ByteArray).size = t.length := rfl
  have HZ := Lib.hid hz
  clear hz
  go_enter Tryz.func231, Tryz.ntmps231
  go_wp2_with fail
  refine (guess_as H1 H2 H3 (by omega) _).mono ?_
  rintro e w1 ⟨rfl, hb1⟩
  have hs1 := hs.on hb1
  clear hs hb1
  have hs2 := hs1.on (one w1 (.cells #[.int .i64 f, .int .u64 (hi : Int), .int .u64 (lo : Int)] 88))
  obtain ⟨x0, x1, x2⟩ := adr_new w1 f (hi : Int) (lo : Int) 88
  go_wp2_with fail
  refine (rprintaddr_as HT _ (hE.on hs2.bl) hh hl).mono ?_
  rintro e w2 ⟨rfl, hb2⟩
  have hs3 := hs2.on hb2
  have y0 := keepc hb2 x0
  have y1 := keepc hb2 x1
  have y2 := keepc hb2 x2
  clear hs1 hs2 x0 x1 x2 hb2
  obtain rfl := HO.out
  have hne : ¬ (p = []) := HNE.out
  have hne2 : p.isEmpty = false := by simpa using hne
  have hne3 : (p == []) = false := by simpa using hne
  have hx := hs3.tell f (hi : Int) (lo : Int)
  obtain ⟨c0, c1, c2, fz, lt, bl⟩ := hs3
  go_wp2
  clear c0 c1 c2
  obtain ⟨c0, c1, c2, bl⟩ := hx
  exact bodyPost_ret (v := .tuple #[.agg #[.int .i64 f, .int .u64 (hi : Int), .int .u64 (lo : Int)], .int .i64 0]) (by simp [results, Tryz.results231, go_sem, c0, c1, c2]) rfl ⟨rfl, bl⟩

set_option maxRecDepth 20000 in
set_option maxHeartbeats 2000000 in
theorem rpa_empty (w : World) (hE : Env w) :
    Calls Tryz.prog 231 #[.string ⟨([] : List UInt8).toArray⟩] w fun e w' => e = .returned (ofA none) ∧ Below w.heap.size w w' := by
  have H1 : Hid ((gsA []).1 = 0) := Lib.hid (by decide)
  have H2 : Hid ((gsA []).2 / 18446744073709551616 = 0) := Lib.hid (by decide)
  have H3 : Hid ((gsA []).2 % 18446744073709551616 = 0) := Lib.hid (by decide)
  have HT : Hid (prT 0 0 0 = []) := Lib.hid (by decide)
  have hs := AS.new w 88
  go_enter Tryz.func231, Tryz.ntmps231
  go_wp2_with fail
  refine (guess_as H1 H2 H3 (by decide) _).mono ?_
  rintro e w1 ⟨rfl, hb1⟩
  have hs1 := hs.on hb1
  clear hs hb1
  have hs2 := hs1.on (one w1 (.cells #[.int .i64 0, .int .u64 0, .int .u64 0] 88))
  obtain ⟨x0, x1, x2⟩ := adr_new w1 0 0 0 88
  go_wp2_with fail
  refine (rprintaddr_as (hi := 0) (lo := 0) HT _ (hE.on hs2.bl) (by decide) (by decide)).mono ?_
  rintro e w2 ⟨rfl, hb2⟩
  have hs3 := hs2.on hb2
  clear hs1 hs2 x0 x1 x2 hb2
  have hx := hs3.tell 0 0 0
  obtain ⟨c0, c1, c2, fz, lt, bl⟩ := hs3
  go_wp2
  clear c0 c1 c2
  obtain ⟨c0, c1, c2, bl⟩ := hx
  exact bodyPost_ret (v := .tuple #[.agg #[.int .i64 0, .int .u64 0, .int .u64 0], .int .i64 70]) (by simp [results, Tryz.results231, go_sem, c0, c1, c2]) rfl ⟨rfl, bl⟩

theorem gs_prT (t : List UInt8) : prT (gsA t).1 ((gsA t).2 / 18446744073709551616) ((gsA t).2 % 18446744073709551616) = prA (gsA t).1 (gsA t).2 := by
  rcases gsA_ok t with h | h
  · rw [h]; decide
  · obtain ⟨h1, h2⟩ := num_of h
    rw [prT_yes h1, h2]
theorem rparseaddr_any (t : List UInt8) (ht : t.length ≤ 140737488355328) (w : World) (hE : Env w) :
    Calls Tryz.prog 231 #[.string ⟨t.toArray⟩] w fun e w' => e = .returned (ofA (prsA t)) ∧ Below w.heap.size w w' := by
  by_cases hlen : 39 < t.length
  · have e : prsA t = none := prsA_none fun f n _ h => by have := prA_len f n; rw [h] at this; omega
    rw [e]
    exact rpa_long t hlen ht w
  · have hN : (gsA t).2 < 340282366920938463463374607431768211456 := by
      rcases gsA_ok t with h | h
      · rw [h]; decide
      · rcases (okA_iff _ _).1 h with ⟨-, h⟩ | ⟨-, h⟩ <;> omega
    have hh : (gsA t).2 / 18446744073709551616 < 18446744073709551616 := by omega
    have hl : (gsA t).2 % 18446744073709551616 < 18446744073709551616 := Nat.mod_lt _ (by omega)
    by_cases he : t = []
    · subst he
      rw [prsA_noguess (.inr rfl)]
      exact rpa_empty w hE
    · by_cases hp : prA (gsA t).1 (gsA t).2 = t
      · rw [prsA_guess hp he]
        exact rpa_same t (by omega) w hE _ _ _ (Lib.hid rfl) (Lib.hid rfl) (Lib.hid rfl) hh hl _ (Lib.hid (gs_prT t)) (Lib.hid hp) (Lib.hid he)
      · rw [prsA_noguess (.inl hp)]
        exact rpa_other t (by omega) w hE _ _ _ (Lib.hid rfl) (Lib.hid rfl) (Lib.hid rfl) hh hl _ (Lib.hid (gs_prT t)) (Lib.hid hp)

end Go.Proofs.YtpkmekdpmkfcdaaGreatDoor.Pf

namespace Go.Proofs.YtpkmekdpmkfcdaaGreatDoor.Pf
open Go.RowKit Go.Proofs.YtpkmekdpmkfcdaaGreatDoor.Wd Go.Proofs.YtpkmekdpmkfcdaaGreatDoor.Px Go.Proofs.YtpkmekdpmkfcdaaGreatDoor.By Go.Proofs.YtpkmekdpmkfcdaaGreatDoor.En Go.Proofs.YtpkmekdpmkfcdaaGreatDoor.Pl

theorem rprint_as {f : Int} {hi lo : Nat} {b : Int} {p : List UInt8} (h : Hid (pT f hi lo b = p)) (w : World) (hE : Env w) (hh : hi < 18446744073709551616) (hl : lo < 18446744073709551616) :
    Calls Tryz.prog 75 #[.agg #[.int .i64 f, .int .u64 hi, .int .u64 lo, .int .i64 b]] w fun e w' => e = .returned (.string ⟨p.toArray⟩) ∧ Below w.heap.size w w' := by
  have := rprint_any f hi lo b w hE hh hl
  rwa [h.out] at this
theorem rparseaddr_as {x : List UInt8} {f : Int} {hi lo : Nat} {e0 : Int} (h : Hid (ofA (prsA x) = .tuple #[.agg #[.int .i64 f, .int .u64 (hi : Int), .int .u64 (lo : Int)], .int .i64 e0])) (hs : x.length ≤ 140737488355328) (w : World) (hE : Env w) :
    Calls Tryz.prog 231 #[.string ⟨x.toArray⟩] w fun e w' => e = .returned (.tuple #[.agg #[.int .i64 f, .int .u64 (hi : Int), .int .u64 (lo : Int)], .int .i64 e0]) ∧ Below w.heap.size w w' := by
  have := rparseaddr_any x hs w hE
  rwa [h.out] at this

set_option maxHeartbeats 1000000 in
theorem rparse_long (t : List UInt8) (ht : 43 < t.length) (ht2 : t.length ≤ 140737488355328) (w : World) :
    Calls Tryz.prog 153 #[.string ⟨t.toArray⟩] w fun e w' => e = .returned (ofP none) ∧ Below w.heap.size w w' := by
  go_enter Tryz.func153, Tryz.ntmps153
  go_wp2
  exact bodyPost_ret (v := .tuple #[.agg #[.int .i64 0, .int .u64 0, .int .u64 0, .int .i64 0], .int .i64 70]) (by simp [results, Tryz.results153, go_sem]) rfl ⟨rfl, one _ _⟩

set_option maxHeartbeats 1000000 in
theorem rparse_many (t : List UInt8) (ht : t.length ≤ 43) (w : World) (ls : List (List UInt8)) (n : Nat) (HS : Hid (split 47 t = ls)) (HN : Hid (ls.length = n)) (hn : n ≠ 2) :
    Calls Tryz.prog 153 #[.string ⟨t.toArray⟩] w fun e w' => e = .returned (ofP none) ∧ Below w.heap.size w w' := by
  have hs := PS.new w 90
  have i0 : ((n : Int) == 2) = false := by rw [beq_eq_false_iff_ne]; omega
  go_enter Tryz.func153, Tryz.ntmps153
  go_wp2_with fail
  refine (rparts_as (c := 47) HS (by omega) _).mono ?_
  rintro e w1 ⟨A, k1, rfl, -, hb1⟩
  have hs1 := hs.on hb1
  rw [HN.out]
  clear hs hb1
  have hx := hs1.tell 0 0 0 0
  obtain ⟨c0, c1, c2, c3, fz, lt, bl⟩ := hs1
  go_wp2
  clear c0 c1 c2 c3
  obtain ⟨c0, c1, c2, c3, bl⟩ := hx
  exact bodyPost_ret (v := .tuple #[.agg #[.int .i64 0, .int .u64 0, .int .u64 0, .int .i64 0], .int .i64 70]) (by simp [results, Tryz.results153, go_sem, c0, c1, c2, c3]) rfl ⟨rfl, bl⟩

theorem keep7 {w W : World} {B b o : Nat} {f hi lo : Int} {v : Value} (ob : Obj) (h : W.cell? ⟨B, 0, none⟩ = some (.int .i64 f) ∧ W.cell? ⟨B, 1, none⟩ = some (.int .u64 hi) ∧ W.cell? ⟨B, 2, none⟩ = some (.int .u64 lo) ∧ W.cell? ⟨b, o, none⟩ = some v ∧ PS w W) :
    (W.alloc ob).cell? ⟨B, 0, none⟩ = some (.int .i64 f) ∧ (W.alloc ob).cell? ⟨B, 1, none⟩ = some (.int .u64 hi) ∧ (W.alloc ob).cell? ⟨B, 2, none⟩ = some (.int .u64 lo) ∧ (W.alloc ob).cell? ⟨b, o, none⟩ = some v ∧ PS w (W.alloc ob) :=
  ⟨keepc (one _ _) h.1, keepc (one _ _) h.2.1, keepc (one _ _) h.2.2.1, keepc (one _ _) h.2.2.2.1, h.2.2.2.2.on (one _ _)⟩
theorem keep7d {w W : World} {B b o : Nat} {f hi lo : Int} {v : Value} (ob : Obj) (h : W.cell? ⟨B, 0, none⟩ = some (.int .i64 f) ∧ W.cell? ⟨B, 1, none⟩ = some (.int .u64 hi) ∧ W.cell? ⟨B, 2, none⟩ = some (.int .u64 lo) ∧ W.cell? ⟨b, o, none⟩ = some v ∧ PS w W) :
    (W.alloc ob).drew.cell? ⟨B, 0, none⟩ = some (.int .i64 f) ∧ (W.alloc ob).drew.cell? ⟨B, 1, none⟩ = some (.int .u64 hi) ∧ (W.alloc ob).drew.cell? ⟨B, 2, none⟩ = some (.int .u64 lo) ∧ (W.alloc ob).drew.cell? ⟨b, o, none⟩ = some v ∧ PS w (W.alloc ob).drew :=
  have hb := (one W ob).drew
  ⟨keepc hb h.1, keepc hb h.2.1, keepc hb h.2.2.1, keepc hb h.2.2.2.1, h.2.2.2.2.on hb⟩

set_option maxRecDepth 20000 in
set_option maxHeartbeats 2000000 in
theorem rparse_noaddr (t x y : List UInt8) (ht : t.length ≤ 43) (hx9 : x.length ≤ 140737488355328) (w : World) (hE : Env w) (HS : Hid (split 47 t = [x, y])) (f : Int) (hi lo : Nat) (hh : hi < 18446744073709551616) (hl : lo < 18446744073709551616)
    (HV : Hid (ofA (prsA x) = .tuple #[.agg #[.int .i64 f, .int .u64 (hi : Int), .int .u64 (lo : Int)], .int .i64 70])) (v : Int) (HN : Hid (numN 10 y = v)) (p : List UInt8) (HT : Hid (pT f hi lo v = p)) :
    Calls Tryz.prog 153 #[.string ⟨t.toArray⟩] w fun e w' => e = .returned (.tuple #[.agg #[.int .i64 0, .int .u64 0, .int .u64 0, .int .i64 0], .int .i64 70]) ∧ Below w.heap.size w w' := by
  have hs := PS.new w 90
  go_enter Tryz.func153, Tryz.ntmps153
  go_wp2_with fail
  refine (rparts_as (c := 47) HS (by omega) _).mono ?_
  rintro e w1 ⟨A, k1, rfl, hsh, hb1⟩
  have hs1 := hs.on hb1
  obtain ⟨b, o, rfl, hb2, hc⟩ := hsh (by simp)
  have r0 := hc 0 x rfl
  have r1 := hc 1 y rfl
  rw [Nat.add_zero] at r0
  unfold strc at r0 r1
  clear hs hb1 hsh hc hb2
  go_wp2_with fail
  refine (rparseaddr_as HV hx9 _ (hE.on hs1.bl)).mono ?_
  rintro e w2 ⟨rfl, hb2⟩
  have hs2 := hs1.on hb2
  have r1b := keepc hb2 r1
  clear hs1 hb2 r0 r1
  have hs3 := hs2.on (one w2 (.cells #[.int .i64 f, .int .u64 (hi : Int), .int .u64 (lo : Int)] 88))
  obtain ⟨x0, x1, x2⟩ := adr_new w2 f (hi : Int) (lo : Int) 88
  have r1c := keepc (one w2 (.cells #[.int .i64 f, .int .u64 (hi : Int), .int .u64 (lo : Int)] 88)) r1b
  go_upto_region 7 with fail
  have K0 := And.intro x0 (And.intro x1 (And.intro x2 (And.intro r1c hs3)))
  have hs4 := hs3.on (Below.refl _ _).drew
  replace x0 := keepc (Below.refl _ _).drew x0
  replace x1 := keepc (Below.refl _ _).drew x1
  replace x2 := keepc (Below.refl _ _).drew x2
  replace r1c := keepc (Below.refl _ _).drew r1c
  clear hs3 hs2 r1b
  go_region_held3 (fun W => W.cell? ⟨w2.heap.size, 0, none⟩ = some (.int .i64 f) ∧ W.cell? ⟨w2.heap.size, 1, none⟩ = some (.int .u64 (hi : Int)) ∧ W.cell? ⟨w2.heap.size, 2, none⟩ = some (.int .u64 (lo : Int)) ∧ W.cell? ⟨b, o + 1, none⟩ = some (.string ⟨y.toArray⟩) ∧ PS w W)
    (first | exact ⟨x0, x1, x2, r1c, hs4⟩ | assumption | exact keep7 _ (by assumption) | exact keep7d _ K0)
    (first | (go_at_call 232; refine (number_as HN (by omega) (by omega) _).mono ?_; rintro e w7 ⟨rfl, rfl⟩))
  all_goals
    have hs5 : PS w ((w2.alloc (.cells #[.int .i64 f, .int .u64 (hi : Int), .int .u64 (lo : Int)] 88)).alloc (.cells #[.int .i64 f, .int .u64 (hi : Int), .int .u64 (lo : Int), .int .i64 v] 90)).drew := (keep7d _ K0).2.2.2.2
    have hp := (pb_new (w2.alloc (.cells #[.int .i64 f, .int .u64 (hi : Int), .int .u64 (lo : Int)] 88)) f hi lo v 90).on (Below.refl _ _).drew
    clear hs4 x0 x1 x2 r1c K0
    go_wp2_with fail
    refine (rprint_as HT _ (hE.on hs5.bl) hh hl).mono ?_
    rintro e w4 ⟨rfl, hb4⟩
    have hs6 := hs5.on hb4
    obtain ⟨q0, q1, q2, q3⟩ := hp.on hb4
    rw [World.size_alloc] at q0 q1 q2 q3
    clear hs5 hp hb4
    have hx := hs6.tell 0 0 0 0
    obtain ⟨c0, c1, c2, c3, fz, lt, bl⟩ := hs6
    go_wp2
    clear c0 c1 c2 c3
    obtain ⟨c0, c1, c2, c3, bl⟩ := hx
    exact bodyPost_ret (v := .tuple #[.agg #[.int .i64 0, .int .u64 0, .int .u64 0, .int .i64 0], .int .i64 70]) (by simp [results, Tryz.results153, go_sem, c0, c1, c2, c3]) rfl ⟨rfl, bl⟩

set_option maxRecDepth 20000 in
set_option maxHeartbeats 2000000 in
theorem rparse_other (t x y : List UInt8) (ht : t.length ≤ 43) (hx9 : x.length ≤ 140737488355328) (w : World) (hE : Env w) (HS : Hid (split 47 t = [x, y])) (f : Int) (hi lo : Nat) (hh : hi < 18446744073709551616) (hl : lo < 18446744073709551616)
    (HV : Hid (ofA (prsA x) = .tuple #[.agg #[.int .i64 f, .int .u64 (hi : Int), .int .u64 (lo : Int)], .int .i64 0])) (v : Int) (HN : Hid (numN 10 y = v)) (p : List UInt8) (HT : Hid (pT f hi lo v = p)) (HO : Hid (p ≠ t)) :
    Calls Tryz.prog 153 #[.string ⟨t.toArray⟩] w fun e w' => e = .returned (.tuple #[.agg #[.int .i64 0, .int .u64 0, .int .u64 0, .int .i64 0], .int .i64 70]) ∧ Below w.heap.size w w' := by
  have hs := PS.new w 90
  go_enter Tryz.func153, Tryz.ntmps153
  go_wp2_with fail
  refine (rparts_as (c := 47) HS (by omega) _).mono ?_
  rintro e w1 ⟨A, k1, rfl, hsh, hb1⟩
  have hs1 := hs.on hb1
  obtain ⟨b, o, rfl, hb2, hc⟩ := hsh (by simp)
  have r0 := hc 0 x rfl
  have r1 := hc 1 y rfl
  rw [Nat.add_zero] at r0
  unfold strc at r0 r1
  clear hs hb1 hsh hc hb2
  go_wp2_with fail
  refine (rparseaddr_as HV hx9 _ (hE.on hs1.bl)).mono ?_
  rintro e w2 ⟨rfl, hb2⟩
  have hs2 := hs1.on hb2
  have r1b := keepc hb2 r1
  clear hs1 hb2 r0 r1
  have hs3 := hs2.on (one w2 (.cells #[.int .i64 f, .int .u64 (hi : Int), .int .u64 (lo : Int)] 88))
  obtain ⟨x0, x1, x2⟩ := adr_new w2 f (hi : Int) (lo : Int) 88
  have r1c := keepc (one w2 (.cells #[.int .i64 f, .int .u64 (hi : Int), .int .u64 (lo : Int)] 88)) r1b
  go_upto_region 7 with fail
  have K0 := And.intro x0 (And.intro x1 (And.intro x2 (And.intro r1c hs3)))
  have hs4 := hs3.on (Below.refl _ _).drew
  replace x0 := keepc (Below.refl _ _).drew x0
  replace x1 := keepc (Below.refl _ _).drew x1
  replace x2 := keepc (Below.refl _ _).drew x2
  replace r1c := keepc (Below.refl _ _).drew r1c
  clear hs3 hs2 r1b
  go_region_held3 (fun W => W.cell? ⟨w2.heap.size, 0, none⟩ = some (.int .i64 f) ∧ W.cell? ⟨w2.heap.size, 1, none⟩ = some (.int .u64 (hi : Int)) ∧ W.cell? ⟨w2.heap.size, 2, none⟩ = some (.int .u64 (lo : Int)) ∧ W.cell? ⟨b, o + 1, none⟩ = some (.string ⟨y.toArray⟩) ∧ PS w W)
    (first | exact ⟨x0, x1, x2, r1c, hs4⟩ | assumption | exact keep7 _ (by assumption) | exact keep7d _ K0)
    (first | (go_at_call 232; refine (number_as HN (by omega) (by omega) _).mono ?_; rintro e w7 ⟨rfl, rfl⟩))
  all_goals
    have hs5 : PS w ((w2.alloc (.cells #[.int .i64 f, .int .u64 (hi : Int), .int .u64 (lo : Int)] 88)).alloc (.cells #[.int .i64 f, .int .u64 (hi : Int), .int .u64 (lo : Int), .int .i64 v] 90)).drew := (keep7d _ K0).2.2.2.2
    have hp := (pb_new (w2.alloc (.cells #[.int .i64 f, .int .u64 (hi : Int), .int .u64 (lo : Int)] 88)) f hi lo v 90).on (Below.refl _ _).drew
    clear hs4 x0 x1 x2 r1c K0
    go_wp2_with fail
    refine (rprint_as HT _ (hE.on hs5.bl) hh hl).mono ?_
    rintro e w4 ⟨rfl, hb4⟩
    have hs6 := hs5.on hb4
    obtain ⟨q0, q1, q2, q3⟩ := hp.on hb4
    rw [World.size_alloc] at q0 q1 q2 q3
    clear hs5 hp hb4
    have hne : ¬ ((p == t) = true) := by simpa using HO.out
    have hx := hs6.tell 0 0 0 0
    obtain ⟨c0, c1, c2, c3, fz, lt, bl⟩ := hs6
    go_wp2
    clear c0 c1 c2 c3
    obtain ⟨c0, c1, c2, c3, bl⟩ := hx
    exact bodyPost_ret (v := .tuple #[.agg #[.int .i64 0, .int .u64 0, .int .u64 0, .int .i64 0], .int .i64 70]) (by simp [results, Tryz.results153, go_sem, c0, c1, c2, c3]) rfl ⟨rfl, bl⟩

set_option maxRecDepth 20000 in
set_option maxHeartbeats 2000000 in
theorem rparse_same (t x y : List UInt8) (ht : t.length ≤ 43) (hx9 : x.length ≤ 140737488355328) (w : World) (hE : Env w) (HS : Hid (split 47 t = [x, y])) (f : Int) (hi lo : Nat) (hh : hi < 18446744073709551616) (hl : lo < 18446744073709551616)
    (HV : Hid (ofA (prsA x) = .tuple #[.agg #[.int .i64 f, .int .u64 (hi : Int), .int .u64 (lo : Int)], .int .i64 0])) (v : Int) (HN : Hid (numN 10 y = v)) (p : List UInt8) (HT : Hid (pT f hi lo v = p)) (HO : Hid (p = t)) :
    Calls Tryz.prog 153 #[.string ⟨t.toArray⟩] w fun e w' => e = .returned (.tuple #[.agg #[.int .i64 f, .int .u64 (hi : Int), .int .u64 (lo : Int), .int .i64 v], .int .i64 0]) ∧ Below w.heap.size w w' := by
  have hs := PS.new w 90
  go_enter Tryz.func153, Tryz.ntmps153
  go_wp2_with fail
  refine (rparts_as (c := 47) HS (by omega) _).mono ?_
  rintro e w1 ⟨A, k1, rfl, hsh, hb1⟩
  have hs1 := hs.on hb1
  obtain ⟨b, o, rfl, hb2, hc⟩ := hsh (by simp)
  have r0 := hc 0 x rfl
  have r1 := hc 1 y rfl
  rw [Nat.add_zero] at r0
  unfold strc at r0 r1
  clear hs hb1 hsh hc hb2
  go_wp2_with fail
  refine (rparseaddr_as HV hx9 _ (hE.on hs1.bl)).mono ?_
  rintro e w2 ⟨rfl, hb2⟩
  have hs2 := hs1.on hb2
  have r1b := keepc hb2 r1
  clear hs1 hb2 r0 r1
  have hs3 := hs2.on (one w2 (.cells #[.int .i64 f, .int .u64 (hi : Int), .int .u64 (lo : Int)] 88))
  obtain ⟨x0, x1, x2⟩ := adr_new w2 f (hi : Int) (lo : Int) 88
  have r1c := keepc (one w2 (.cells #[.int .i64 f, .int .u64 (hi : Int), .int .u64 (lo : Int)] 88)) r1b
  go_upto_region 7 with fail
  have K0 := And.intro x0 (And.intro x1 (And.intro x2 (And.intro r1c hs3)))
  have hs4 := hs3.on (Below.refl _ _).drew
  replace x0 := keepc (Below.refl _ _).drew x0
  replace x1 := keepc (Below.refl _ _).drew x1
  replace x2 := keepc (Below.refl _ _).drew x2
  replace r1c := keepc (Below.refl _ _).drew r1c
  clear hs3 hs2 r1b
  go_region_held3 (fun W => W.cell? ⟨w2.heap.size, 0, none⟩ = some (.int .i64 f) ∧ W.cell? ⟨w2.heap.size, 1, none⟩ = some (.int .u64 (hi : Int)) ∧ W.cell? ⟨w2.heap.size, 2, none⟩ = some (.int .u64 (lo : Int)) ∧ W.cell? ⟨b, o + 1, none⟩ = some (.string ⟨y.toArray⟩) ∧ PS w W)
    (first | exact ⟨x0, x1, x2, r1c, hs4⟩ | assumption | exact keep7 _ (by assumption) | exact keep7d _ K0)
    (first | (go_at_call 232; refine (number_as HN (by omega) (by omega) _).mono ?_; rintro e w7 ⟨rfl, rfl⟩))
  all_goals
    have hs5 : PS w ((w2.alloc (.cells #[.int .i64 f, .int .u64 (hi : Int), .int .u64 (lo : Int)] 88)).alloc (.cells #[.int .i64 f, .int .u64 (hi : Int), .int .u64 (lo : Int), .int .i64 v] 90)).drew := (keep7d _ K0).2.2.2.2
    have hp := (pb_new (w2.alloc (.cells #[.int .i64 f, .int .u64 (hi : Int), .int .u64 (lo : Int)] 88)) f hi lo v 90).on (Below.refl _ _).drew
    clear hs4 x0 x1 x2 r1c K0
    go_wp2_with fail
    refine (rprint_as HT _ (hE.on hs5.bl) hh hl).mono ?_
    rintro e w4 ⟨rfl, hb4⟩
    have hs6 := hs5.on hb4
    obtain ⟨q0, q1, q2, q3⟩ := hp.on hb4
    rw [World.size_alloc] at q0 q1 q2 q3
    clear hs5 hp hb4
    obtain rfl := HO.out
    have hx := hs6.tell f (hi : Int) (lo : Int) v
    obtain ⟨c0, c1, c2, c3, fz, lt, bl⟩ := hs6
    go_wp2
    clear c0 c1 c2 c3
    obtain ⟨c0, c1, c2, c3, bl⟩ := hx
    exact bodyPost_ret (v := .tuple #[.agg #[.int .i64 f, .int .u64 (hi : Int), .int .u64 (lo : Int), .int .i64 v], .int .i64 0]) (by simp [results, Tryz.results153, go_sem, c0, c1, c2, c3]) rfl ⟨rfl, bl⟩

theorem two_of {α : Type} : ∀ {l : List α}, l.length = 2 → ∃ x y, l = [x, y]
  | [x, y], _ => ⟨x, y, rfl⟩
theorem rparse_any (t : List UInt8) (ht : t.length ≤ 140737488355328) (w : World) (hE : Env w) :
    Calls Tryz.prog 153 #[.string ⟨t.toArray⟩] w fun e w' => e = .returned (ofP (prsP t)) ∧ Below w.heap.size w w' := by
  by_cases hlen : 43 < t.length
  · have e : prsP t = none := prsP_none fun f n b _ h => by have := prP_len f n b; rw [h] at this; omega
    rw [e]
    exact rparse_long t hlen ht w
  · by_cases h2 : (split 47 t).length = 2
    · obtain ⟨x, y, hxy⟩ := two_of h2
      have hj := join_split 47 t
      rw [hxy] at hj
      have hx9 : x.length ≤ 140737488355328 := by
        have := congrArg List.length hj
        simp [join] at this
        omega
      have hne : t ≠ [] := by
        rw [← hj]; simp [join]
      cases hA : prsA x with
      | none =>
        rw [prsP_noA hxy hA]
        exact rparse_noaddr t x y (by omega) hx9 w hE (Lib.hid hxy) 0 0 0 (by omega) (by omega) (Lib.hid (by rw [hA]; rfl)) _ (Lib.hid rfl) _ (Lib.hid rfl)
      | some q =>
        obtain ⟨f, N⟩ := q
        obtain ⟨hok, hpr⟩ := prsA_some hA
        obtain ⟨s1, s2⟩ := okA_small hok
        have hpT := pT_of hok (numN 10 y)
        by_cases he : prP f N (numN 10 y) = t
        · rw [prsP_yes hne he]
          exact rparse_same t x y (by omega) hx9 w hE (Lib.hid hxy) f _ _ s1 s2 (Lib.hid (by rw [hA]; rfl)) _ (Lib.hid rfl) _ (Lib.hid hpT) (Lib.hid he)
        · rw [prsP_noT hxy hA he]
          exact rparse_other t x y (by omega) hx9 w hE (Lib.hid hxy) f _ _ s1 s2 (Lib.hid (by rw [hA]; rfl)) _ (Lib.hid rfl) _ (Lib.hid hpT) (Lib.hid he)
    · rw [prsP_many h2]
      exact rparse_many t (by omega) w _ _ (Lib.hid rfl) (Lib.hid rfl) h2

end Go.Proofs.YtpkmekdpmkfcdaaGreatDoor.Pf
