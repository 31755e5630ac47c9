/- Plain: from the parts that were read to the address that the text says. -/
import Derived.Test.YtnodiejfhkjliaaDoorParseA
import Derived.Test.YtnodiejfhkjliaaDoorParseP
namespace Go.Proofs.YtnodiejfhkjliaaDoor.Pf
open Go.Lib (decDigits)
open Go.RowKit Go.Shelf Go.Proofs.YtnodiejfhkjliaaDoor.Wd Go.Proofs.YtnodiejfhkjliaaDoor.Px Go.Proofs.YtnodiejfhkjliaaDoor.By Go.Proofs.YtnodiejfhkjliaaDoor.En Go.Proofs.YtnodiejfhkjliaaDoor.Pl

/-- the results' cells when all is told -/
structure PR (w : World) (f hi lo e : Int) (W : World) : Prop where
  r0 : W.cell? ⟨w.heap.size, 0, none⟩ = some (.int .i64 f)
  r1 : W.cell? ⟨w.heap.size, 1, none⟩ = some (.int .u64 hi)
  r2 : W.cell? ⟨w.heap.size, 2, none⟩ = some (.int .u64 lo)
  e0 : W.cell? ⟨w.heap.size + 1, 0, none⟩ = some (.int .i64 e)
  bl : Below w.heap.size w W
theorem PX.pr {w W : World} (h : PX w W) : PR w 0 0 0 70 W := ⟨h.r0, h.r1, h.r2, h.e0, h.bl⟩
theorem PA.tell {w W : World} {f : Int} {hi lo : Nat} {bs sz : Int} (h : PA w f hi lo bs sz W) (f' x y e : Int) : PR w f' x y e ((((W.setCell ⟨w.heap.size, 0, none⟩ (.int .i64 f')).setCell ⟨w.heap.size, 1, none⟩ (.int .u64 x)).setCell ⟨w.heap.size, 2, none⟩ (.int .u64 y)).setCell ⟨w.heap.size + 1, 0, none⟩ (.int .i64 e)) := by
  obtain ⟨r0, r1, r2, rf, e0, ef, -, -, -, -, -, -, hlt, hbl⟩ := h
  exact ⟨by go_simp, by go_simp, by go_simp, by go_simp, (((hbl.setCell (p := ⟨w.heap.size, 0, none⟩) (Nat.le_refl _) _).setCell (p := ⟨w.heap.size, 1, none⟩) (Nat.le_refl _) _).setCell (p := ⟨w.heap.size, 2, none⟩) (Nat.le_refl _) _).setCell (p := ⟨w.heap.size + 1, 0, none⟩) (by simp) _⟩
theorem PR.shut {w W : World} {f hi lo e : Int} (h : PR w f hi lo e W) {D : Nat} {o o' : Obj} (hK : W.heap[D]? = some o) (ho : o.isCells = false) (hD : w.heap.size ≤ D) : PR w f hi lo e (W.putObj D o') := by
  have hg := grownBy_putObj' W D o'
  have hr : ∀ r, some D = some r → w.heap.size ≤ r ∧ ∃ o : Obj, W.heap[r]? = some o ∧ o.isCells = false := fun r e => by cases e; exact ⟨hD, _, hK, ho⟩
  exact ⟨blk_cell (blk_kept h.r0 hg hr) h.r0, blk_cell (blk_kept h.r0 hg hr) h.r1, blk_cell (blk_kept h.r0 hg hr) h.r2, blk_cell (blk_kept h.e0 hg hr) h.e0, h.bl.grown hg h.bl.size (fun k e => (hr k e).1)⟩
theorem fourKept (W : World) (a b c d : Addr) (u v x y : Value) : KeepsOthers W ((((W.setCell a u).setCell b v).setCell c x).setCell d y) := (((KeepsOthers.setCell _ _ _).trans (KeepsOthers.setCell _ _ _)).trans (KeepsOthers.setCell _ _ _)).trans (KeepsOthers.setCell _ _ _)

theorem index_no {t : List UInt8} (h : Lib.indexByte t 58 = -1) : (58 : UInt8) ∉ t := by
  rcases index_spec 58 t with ⟨-, h2⟩ | ⟨q, h1, -⟩
  · exact h2
  · rw [h] at h1; omega
theorem index_yes {t : List UInt8} {q : Nat} (h : Lib.indexByte t 58 = (q : Int)) : (58 : UInt8) ∈ t := by
  rcases index_spec 58 t with ⟨h1, -⟩ | ⟨p, h1, -, h3, -⟩
  · rw [h] at h1; omega
  · rw [h3]; simp
theorem map_some_inj : ∀ {a b : List Nat}, a.map some = b.map some → a = b
  | [], [], _ => rfl
  | x :: a, y :: b, h => by
    simp only [List.map_cons] at h
    injection h with h1 h2
    injection h1 with h1
    rw [h1, map_some_inj h2]
theorem map_v16 (l : List Nat) (h : ∀ d ∈ l, d < 65536) : (l.map hex4).map v16 = l.map some := by
  rw [List.map_map]
  exact List.map_congr_left fun d hd => v16_hex4 d (h d hd)
theorem map_v8 (l : List Nat) (h : ∀ d ∈ l, d < 256) : (l.map decDigits).map v8 = l.map some := by
  rw [List.map_map]
  exact List.map_congr_left fun d hd => v8_dec d (h d hd)

/-- which address a text with a colon, without one says -/
theorem fam6 {t : List UInt8} (hc : (58 : UInt8) ∈ t) {f : Int} {n : Nat} (h : okA f n = true) (e : prA f n = t) : f = 6 ∧ n < 340282366920938463463374607431768211456 ∧ split 58 t = (dgs 65536 8 n).map hex4 := by
  rcases (okA_iff f n).1 h with ⟨rfl, hn⟩ | ⟨rfl, hn⟩
  · exact ⟨rfl, hn, by rw [← e]; exact split_6 n hn⟩
  · exact absurd (e ▸ hc) (no_colon_4 n hn)
theorem fam4 {t : List UInt8} (hc : (58 : UInt8) ∉ t) {f : Int} {n : Nat} (h : okA f n = true) (e : prA f n = t) : f = 4 ∧ n < 4294967296 ∧ split 46 t = (dgs 256 4 n).map decDigits := by
  rcases (okA_iff f n).1 h with ⟨rfl, hn⟩ | ⟨rfl, hn⟩
  · exact absurd (e ▸ colon_6 n hn) hc
  · exact ⟨rfl, hn, by rw [← e]; exact split_4 n hn⟩

theorem bad6 {t : List UInt8} (hc : (58 : UInt8) ∈ t) {pre : List (List UInt8)} (hp : pre <+: split 58 t) (hB : Bad v16 8 pre) : prsA t = none := by
  refine prsA_none fun f n h e => ?_
  obtain ⟨rfl, hn, hs⟩ := fam6 hc h e
  rw [hs] at hp
  have hl := hp.length_le
  rw [List.length_map, dgs_len] at hl
  obtain ⟨p, x, rfl, hx | hx⟩ := hB
  · have : x ∈ (dgs 65536 8 n).map hex4 := hp.subset (by simp)
    obtain ⟨d, hd, rfl⟩ := List.mem_map.1 this
    rw [v16_hex4 d (dgs_lt 65536 8 (by omega) n d hd)] at hx
    cases hx
  · omega
theorem bad4 {t : List UInt8} (hc : (58 : UInt8) ∉ t) {pre : List (List UInt8)} (hp : pre <+: split 46 t) (hB : Bad v8 4 pre) : prsA t = none := by
  refine prsA_none fun f n h e => ?_
  obtain ⟨rfl, hn, hs⟩ := fam4 hc h e
  rw [hs] at hp
  have hl := hp.length_le
  rw [List.length_map, dgs_len] at hl
  obtain ⟨p, x, rfl, hx | hx⟩ := hB
  · have : x ∈ (dgs 256 4 n).map decDigits := hp.subset (by simp)
    obtain ⟨d, hd, rfl⟩ := List.mem_map.1 this
    rw [v8_dec d (dgs_lt 256 4 (by omega) n d hd)] at hx
    cases hx
  · omega

theorem good6_lt {t : List UInt8} {N : Nat} (hG : Good v16 65536 8 (split 58 t) N) : N < 340282366920938463463374607431768211456 :=
  Nat.lt_of_lt_of_le (hG.lt v16_lt) (show 65536 ^ (split 58 t).length ≤ 65536 ^ 8 from Nat.pow_le_pow_right (by omega) hG.1)
theorem good4_lt {t : List UInt8} {N : Nat} (hG : Good v8 256 4 (split 46 t) N) : N < 4294967296 :=
  Nat.lt_of_lt_of_le (hG.lt v8_lt) (show 256 ^ (split 46 t).length ≤ 256 ^ 4 from Nat.pow_le_pow_right (by omega) hG.1)
theorem good6 {t : List UInt8} (hc : (58 : UInt8) ∈ t) {N : Nat} (hG : Good v16 65536 8 (split 58 t) N) :
    prsA t = if prT 6 (N / 18446744073709551616) (N % 18446744073709551616) = t then some (6, N) else none := by
  have hN := good6_lt hG
  have e1 : prT 6 (N / 18446744073709551616) (N % 18446744073709551616) = prA 6 N := by
    rw [prT_yes (by simp [vA])]
    congr 1
    simp [num]
    omega
  have ho : okA 6 N = true := (okA_iff 6 N).2 (.inl ⟨rfl, hN⟩)
  rw [e1]
  split
  · rename_i h
    rw [← h]
    exact prsA_prt ho
  · rename_i hne
    refine prsA_none fun f n h e => ?_
    obtain ⟨rfl, hn, hs⟩ := fam6 hc h e
    obtain ⟨-, ds, h1, h2⟩ := hG
    rw [hs, map_v16 _ (dgs_lt 65536 8 (by omega) n)] at h1
    rw [← map_some_inj h1, ofD_dgs 65536 8 n hn] at h2
    exact hne (h2 ▸ e)
theorem good4 {t : List UInt8} (hc : (58 : UInt8) ∉ t) {N : Nat} (hG : Good v8 256 4 (split 46 t) N) :
    prsA t = if prT 4 (N / 18446744073709551616) (N % 18446744073709551616) = t then some (4, N) else none := by
  have hN := good4_lt hG
  have e1 : prT 4 (N / 18446744073709551616) (N % 18446744073709551616) = prA 4 N := by
    rw [prT_yes (by simp [vA]; omega)]
    congr 1
    simp [num]
    omega
  have ho : okA 4 N = true := (okA_iff 4 N).2 (.inr ⟨rfl, hN⟩)
  rw [e1]
  split
  · rename_i h
    rw [← h]
    exact prsA_prt ho
  · rename_i hne
    refine prsA_none fun f n h e => ?_
    obtain ⟨rfl, hn, hs⟩ := fam4 hc h e
    obtain ⟨-, ds, h1, h2⟩ := hG
    rw [hs, map_v8 _ (dgs_lt 256 4 (by omega) n)] at h1
    rw [← map_some_inj h1, ofD_dgs 256 4 n hn] at h2
    exact hne (h2 ▸ e)

end Go.Proofs.YtnodiejfhkjliaaDoor.Pf
