/- Plain: the prefix at the beginning of bytes; what a reader of numbers answers. Contracts: the reader of numbers: its steps. Contracts: the reader of numbers: a number of one, four, eight bytes; its place and error. Contract: a new reader over a copy of bytes. Contract: the prefix at the beginning of bytes, by the program. -/
import Derived.Test.YtnodiejfhkjliaaGreatDoorRPutA
import Derived.Deep.QuietTactic
import Derived.BigQuiet
import Derived.RegionTactic
import Derived.Test.YtnodiejfhkjliaaGreatDoorMC
import Derived.LoopN
import Derived.Test.YtnodiejfhkjliaaGreatDoorMB
import Derived.Test.YtnodiejfhkjliaaGreatDoorMJ
namespace Go.Proofs.YtnodiejfhkjliaaGreatDoor.Pf
open Go.RowKit Go.Proofs.YtnodiejfhkjliaaGreatDoor.Wd Go.Proofs.YtnodiejfhkjliaaGreatDoor.Px Go.Proofs.YtnodiejfhkjliaaGreatDoor.By

/-! ### a reader: its place, its error (10: too short) -/
def rdV (bs : List UInt8) (n a e : Nat) : Nat := if e = 0 ∧ a + n ≤ bs.length then ofB ((bs.drop a).take n) else 0
def rdA (bs : List UInt8) (n a e : Nat) : Nat := if e = 0 ∧ a + n ≤ bs.length then a + n else a
def rdE (bs : List UInt8) (n a e : Nat) : Nat := if e = 0 then (if a + n ≤ bs.length then 0 else 10) else e
theorem rd_yes {bs : List UInt8} {n a : Nat} (h : a + n ≤ bs.length) : rdV bs n a 0 = ofB ((bs.drop a).take n) ∧ rdA bs n a 0 = a + n ∧ rdE bs n a 0 = 0 := by
  refine ⟨?_, ?_, ?_⟩
  · rw [rdV, if_pos ⟨rfl, h⟩]
  · rw [rdA, if_pos ⟨rfl, h⟩]
  · rw [rdE, if_pos rfl, if_pos h]
theorem rd_short {bs : List UInt8} {n a : Nat} (h : bs.length < a + n) : rdV bs n a 0 = 0 ∧ rdA bs n a 0 = a ∧ rdE bs n a 0 = 10 := by
  refine ⟨?_, ?_, ?_⟩
  · rw [rdV, if_neg (by omega)]
  · rw [rdA, if_neg (by omega)]
  · rw [rdE, if_pos rfl, if_neg (by omega)]
theorem rd_bad {bs : List UInt8} {n a e : Nat} (h : e ≠ 0) : rdV bs n a e = 0 ∧ rdA bs n a e = a ∧ rdE bs n a e = e := by
  refine ⟨?_, ?_, ?_⟩
  · rw [rdV, if_neg (by omega)]
  · rw [rdA, if_neg (by omega)]
  · rw [rdE, if_neg h]
theorem rdA_le {bs : List UInt8} {n a e : Nat} (h : a ≤ bs.length) : rdA bs n a e ≤ bs.length := by unfold rdA; split <;> omega
theorem rdE_le {bs : List UInt8} {n a e : Nat} (h : e ≤ 10) : rdE bs n a e ≤ 10 := by unfold rdE; split <;> (try split) <;> omega
theorem rdV_lt {bs : List UInt8} {n a e : Nat} : rdV bs n a e < 256 ^ n := by
  unfold rdV
  split
  · have h1 := ofB_lt ((bs.drop a).take n)
    exact Nat.lt_of_lt_of_le h1 (Nat.pow_le_pow_right (by omega) (by rw [List.length_take]; omega))
  · exact Nat.pow_pos (by omega)

/-! ### the prefix at the beginning -/
def gtP : List UInt8 → Option (Int × Nat × Nat × Int × Nat)
  | a :: b :: r =>
    if a.toNat = 4 then (if 4 ≤ r.length ∧ vP 4 0 (ofB (r.take 4)) (b.toNat : Int) = true then some (4, 0, ofB (r.take 4), (b.toNat : Int), 6) else none)
    else if 16 ≤ r.length ∧ vP (a.toNat : Int) (ofB (r.take 8)) (ofB ((r.drop 8).take 8)) (b.toNat : Int) = true then some ((a.toNat : Int), ofB (r.take 8), ofB ((r.drop 8).take 8), (b.toNat : Int), 18) else none
  | _ => none
/-- what the program's reader comes to: two numbers, then by the first of them -/
def gtR (bs : List UInt8) : Option (Int × Nat × Nat × Int × Nat) :=
  let x := rdV bs 1 0 0; let a1 := rdA bs 1 0 0; let e1 := rdE bs 1 0 0
  let y := rdV bs 1 a1 e1; let a2 := rdA bs 1 a1 e1; let e2 := rdE bs 1 a1 e1
  if x = 4 then
    let lo := rdV bs 4 a2 e2
    if rdE bs 4 a2 e2 = 0 ∧ vP 4 0 lo (y : Int) = true then some (4, 0, lo, (y : Int), rdA bs 4 a2 e2) else none
  else
    let hi := rdV bs 8 a2 e2; let a3 := rdA bs 8 a2 e2; let e3 := rdE bs 8 a2 e2
    let lo := rdV bs 8 a3 e3
    if rdE bs 8 a3 e3 = 0 ∧ vP (x : Int) hi lo (y : Int) = true then some ((x : Int), hi, lo, (y : Int), rdA bs 8 a3 e3) else none
theorem ofB_one (a : UInt8) : ofB [a] = a.toNat := by simp [ofB, ofD]
theorem gtR_eq : ∀ l : List UInt8, gtR (l.take 18) = gtP l
  | [] => by
    have h : ∀ k, 0 < k → rdV [] k 0 0 = 0 ∧ rdA [] k 0 0 = 0 ∧ rdE [] k 0 0 = 10 := fun k hk => rd_short (by simp; omega)
    obtain ⟨h1, h2, h3⟩ := h 1 (by omega)
    obtain ⟨g1, g2, g3⟩ := rd_bad (bs := []) (n := 1) (a := 0) (e := 10) (by omega)
    obtain ⟨f1, f2, f3⟩ := rd_bad (bs := []) (n := 8) (a := 0) (e := 10) (by omega)
    simp [gtR, gtP, h1, h2, h3, g1, g2, g3, f2, f3]
  | [a] => by
    obtain ⟨h1, h2, h3⟩ := rd_yes (bs := [a]) (n := 1) (a := 0) (by simp)
    obtain ⟨g1, g2, g3⟩ := rd_short (bs := [a]) (n := 1) (a := 1) (by simp)
    obtain ⟨f1, f2, f3⟩ := rd_bad (bs := [a]) (n := 8) (a := 1) (e := 10) (by omega)
    obtain ⟨k1, k2, k3⟩ := rd_bad (bs := [a]) (n := 4) (a := 1) (e := 10) (by omega)
    simp [gtR, gtP, h1, h2, h3, g1, g2, g3, f2, f3, k3]
  | a :: b :: r => by
    have hbs : (a :: b :: r).take 18 = a :: b :: r.take 16 := by simp
    have hlen : (a :: b :: r.take 16).length = 2 + min 16 r.length := by simp; omega
    obtain ⟨h1, h2, h3⟩ := rd_yes (bs := a :: b :: r.take 16) (n := 1) (a := 0) (by simp)
    obtain ⟨g1, g2, g3⟩ := rd_yes (bs := a :: b :: r.take 16) (n := 1) (a := 1) (by simp)
    simp only [List.drop_zero, List.take_succ_cons, List.take_zero, List.drop_succ_cons, ofB_one] at h1 g1
    rw [hbs]
    simp only [gtR, gtP, h1, h2, h3, g1, g2, g3, Nat.zero_add, Nat.reduceAdd]
    by_cases h4 : a.toNat = 4
    · rw [if_pos h4, if_pos h4]
      by_cases hr : 4 ≤ r.length
      · obtain ⟨k1, k2, k3⟩ := rd_yes (bs := a :: b :: r.take 16) (n := 4) (a := 2) (by omega)
        have e : (r.take 16).take 4 = r.take 4 := by rw [List.take_take]; rfl
        simp only [List.drop_succ_cons, List.drop_zero, e] at k1
        rw [k1, k2, k3]
        simp [hr]
      · obtain ⟨k1, k2, k3⟩ := rd_short (bs := a :: b :: r.take 16) (n := 4) (a := 2) (by omega)
        rw [k1, k2, k3, if_neg (fun h => absurd h.1 (by decide)), if_neg (fun h => hr h.1)]
    · rw [if_neg h4, if_neg h4]
      by_cases hr : 16 ≤ r.length
      · obtain ⟨k1, k2, k3⟩ := rd_yes (bs := a :: b :: r.take 16) (n := 8) (a := 2) (by omega)
        obtain ⟨m1, m2, m3⟩ := rd_yes (bs := a :: b :: r.take 16) (n := 8) (a := 10) (by omega)
        have e : (r.take 16).take 8 = r.take 8 := by rw [List.take_take]; rfl
        have e2 : ((r.take 16).drop 8).take 8 = (r.drop 8).take 8 := by rw [List.drop_take, List.take_take]; rfl
        simp only [List.drop_succ_cons, List.drop_zero, e, e2] at k1 m1
        rw [k1, k2, k3, m1, m2, m3]
        simp [hr]
      · by_cases h8 : 8 ≤ r.length
        · obtain ⟨k1, k2, k3⟩ := rd_yes (bs := a :: b :: r.take 16) (n := 8) (a := 2) (by omega)
          obtain ⟨m1, m2, m3⟩ := rd_short (bs := a :: b :: r.take 16) (n := 8) (a := 10) (by omega)
          rw [k2, k3, m3, if_neg (fun h => absurd h.1 (by decide)), if_neg (fun h => hr h.1)]
        · obtain ⟨k1, k2, k3⟩ := rd_short (bs := a :: b :: r.take 16) (n := 8) (a := 2) (by omega)
          obtain ⟨m1, m2, m3⟩ := rd_bad (bs := a :: b :: r.take 16) (n := 8) (a := 2) (e := 10) (by omega)
          rw [k2, k3, m3, if_neg (fun h => absurd h.1 (by decide)), if_neg (fun h => hr h.1)]

theorem be_at {k : Nat} (l : List UInt8) (h : l.length = k) : be k (ofB l) = l := by subst h; exact be_ofB l
theorem u8_back (a : UInt8) : UInt8.ofNat ((a.toNat : Int)).toNat = a := by simp
/-- what is read is what would be written -/
theorem gtP_some {l : List UInt8} {f : Int} {hi lo : Nat} {b : Int} {n : Nat} (h : gtP l = some (f, hi, lo, b, n)) :
    vP f hi lo b = true ∧ hi < 18446744073709551616 ∧ lo < 18446744073709551616 ∧ n = (pB f hi lo b).length ∧ n ≤ l.length ∧ pB f hi lo b = l.take n := by
  unfold gtP at h
  split at h
  · rename_i a c r
    split at h
    · rename_i h4
      split at h
      · rename_i hc
        obtain ⟨hr, hv⟩ := hc
        simp only [Option.some.injEq, Prod.mk.injEq] at h
        obtain ⟨rfl, rfl, rfl, rfl, rfl⟩ := h
        have hl4 : (r.take 4).length = 4 := by rw [List.length_take]; omega
        have hb := ofB_lt (r.take 4)
        rw [hl4] at hb
        have hp : pB 4 0 (ofB (r.take 4)) (c.toNat : Int) = (a :: c :: r).take 6 := by
          rw [pB_yes hv, paB_4 (by omega), be_at _ hl4, u8_back, show UInt8.ofNat (4 : Int).toNat = a from UInt8.toNat_inj.1 (by rw [h4]; rfl)]
          simp
        refine ⟨hv, by omega, by omega, ?_, by simp; omega, hp⟩
        rw [hp, List.length_take]
        simp only [List.length_cons]; omega
      · cases h
    · split at h
      · rename_i h4 hc
        obtain ⟨hr, hv⟩ := hc
        simp only [Option.some.injEq, Prod.mk.injEq] at h
        obtain ⟨rfl, rfl, rfl, rfl, rfl⟩ := h
        have hl8 : (r.take 8).length = 8 := by rw [List.length_take]; omega
        have hm8 : ((r.drop 8).take 8).length = 8 := by rw [List.length_take, List.length_drop]; omega
        have hb := ofB_lt (r.take 8)
        have hb2 := ofB_lt ((r.drop 8).take 8)
        rw [hl8] at hb
        rw [hm8] at hb2
        have h6 : (a.toNat : Int) = 6 := by
          rcases (vA_iff _ _ _).1 ((vP_iff _ _ _ _).1 hv).1 with h | ⟨h, -⟩
          · exact h
          · omega
        have hp : pB (a.toNat : Int) (ofB (r.take 8)) (ofB ((r.drop 8).take 8)) (c.toNat : Int) = (a :: c :: r).take 18 := by
          rw [pB_yes hv, h6, paB_6, be_at _ hl8, be_at _ hm8, u8_back, ← h6, u8_back]
          have e : r.take 16 = r.take 8 ++ (r.drop 8).take 8 := List.take_add (l := r) (i := 8) (j := 8)
          simp [e]
        refine ⟨hv, hb, hb2, ?_, by simp; omega, hp⟩
        rw [hp, List.length_take]
        simp only [List.length_cons]; omega
      · cases h
  · cases h
/-- what was written is read, whatever stands behind -/
theorem gtP_put {f : Int} {hi lo : Nat} {b : Int} (hv : vP f hi lo b = true) (hh : hi < 18446744073709551616) (hl : lo < 18446744073709551616) (m : List UInt8) :
    gtP (pB f hi lo b ++ m) = some (f, hi, lo, b, (pB f hi lo b).length) := by
  obtain ⟨hvA, hb0, hbw, -⟩ := (vP_iff f hi lo b).1 hv
  have hw := wid_le f
  have eb : ((UInt8.ofNat b.toNat).toNat : Int) = b := by simp; omega
  rcases (vA_iff f hi lo).1 hvA with rfl | ⟨rfl, rfl, h3⟩
  · have hp : pB 6 hi lo b = 6 :: UInt8.ofNat b.toNat :: (be 8 hi ++ be 8 lo) := by rw [pB_yes hv, paB_6]; rfl
    have l1 := be_len 8 hi
    have l2 := be_len 8 lo
    have t1 : ((be 8 hi ++ be 8 lo) ++ m).take 8 = be 8 hi := by
      rw [List.append_assoc, List.take_append_of_le_length (by omega), List.take_of_length_le (by omega)]
    have t2 : (((be 8 hi ++ be 8 lo) ++ m).drop 8).take 8 = be 8 lo := by
      rw [List.append_assoc, List.drop_append_of_le_length (by omega), List.drop_of_length_le (by omega), List.nil_append, List.take_append_of_le_length (by omega), List.take_of_length_le (by omega)]
    have hlen : (pB 6 hi lo b).length = 18 := by rw [hp]; simp [l1, l2]
    rw [hlen, hp, List.cons_append, List.cons_append]
    simp only [gtP]
    rw [if_neg (by decide), t1, t2, ofB_be 8 hi (by omega), ofB_be 8 lo (by omega), eb, if_pos ⟨by simp [l1, l2]; omega, hv⟩]
    rfl
  · have hp : pB 4 0 lo b = 4 :: UInt8.ofNat b.toNat :: be 4 lo := by rw [pB_yes hv, paB_4 h3]; rfl
    have l1 := be_len 4 lo
    have t1 : (be 4 lo ++ m).take 4 = be 4 lo := by
      rw [List.take_append_of_le_length (by omega), List.take_of_length_le (by omega)]
    have hlen : (pB 4 0 lo b).length = 6 := by rw [hp]; simp [l1]
    rw [hlen, hp, List.cons_append, List.cons_append]
    simp only [gtP]
    rw [if_pos (by decide), t1, ofB_be 4 lo (by omega), eb, if_pos ⟨by simp [l1], hv⟩]

end Go.Proofs.YtnodiejfhkjliaaGreatDoor.Pf

namespace Go.Proofs.YtnodiejfhkjliaaGreatDoor.Pf
open Go.RowKit Go.Proofs.YtnodiejfhkjliaaGreatDoor.Wd Go.Proofs.YtnodiejfhkjliaaGreatDoor.Px Go.Proofs.YtnodiejfhkjliaaGreatDoor.By

/-- a step that writes into the block R alone and makes no other -/
structure But (R : Nat) (W W' : World) : Prop where
  blk : ∀ k, k ≠ R → W'.heap[k]? = W.heap[k]?
  size : W'.heap.size = W.heap.size
  bl : ∀ (B : Nat) (w0 : World), B ≤ R → Below B w0 W → Below B w0 W'
theorem But.refl (R : Nat) (W : World) : But R W W := ⟨fun _ _ => rfl, rfl, fun _ _ _ h => h⟩
theorem But.trans {R : Nat} {A B C : World} (h : But R A B) (k : But R B C) : But R A C := ⟨fun i hi => (k.blk i hi).trans (h.blk i hi), k.size.trans h.size, fun b w0 hb h0 => k.bl b w0 hb (h.bl b w0 hb h0)⟩
theorem But.drew {R : Nat} {A B : World} (h : But R A B) : But R A B.drew := ⟨h.blk, h.size, fun b w0 hb h0 => (h.bl b w0 hb h0).drew⟩
theorem But.drewN {R : Nat} {A B : World} (h : But R A B) : ∀ n, But R A (B.drewN n)
  | 0 => h
  | n + 1 => by
    have := (But.drewN h n).drew
    rwa [World.drew_drewN] at this
theorem But.set {R : Nat} {A B : World} (h : But R A B) (o : Nat) (v : Value) : But R A (B.setCell ⟨R, o, none⟩ v) :=
  ⟨fun k hk => (Below.heap_setCell B ⟨R, o, none⟩ v k hk).trans (h.blk k hk), by simpa using h.size, fun b w0 hb h0 => (h.bl b w0 hb h0).setCell (p := ⟨R, o, none⟩) hb v⟩
theorem But.cell {R : Nat} {A B : World} (h : But R A B) {b o : Nat} (hb : b ≠ R) {v : Value} (hc : A.cell? ⟨b, o, none⟩ = some v) : B.cell? ⟨b, o, none⟩ = some v :=
  (World.cell?_of_block (a := ⟨b, o, none⟩) (h.blk b hb)).trans hc
theorem But.frz {R : Nat} {A B : World} (h : But R A B) {b : Nat} (hb : b ≠ R) (hc : ∀ o, A.frozen? ⟨b, o, none⟩ = false) : ∀ o, B.frozen? ⟨b, o, none⟩ = false :=
  fun o => (World.frozen?_of_block (a := ⟨b, o, none⟩) (h.blk b hb)).trans (hc o)

/-- a reader at R over the bytes bs at g, its place a, its error e -/
structure Rd (W : World) (R g : Nat) (bs : List UInt8) (a e : Nat) : Prop where
  cb : W.cell? ⟨R, 0, none⟩ = some (.slice (some ⟨g, 0, none⟩) bs.length bs.length)
  ca : W.cell? ⟨R, 1, none⟩ = some (.int .i64 (a : Int))
  ce : W.cell? ⟨R, 2, none⟩ = some (.int .i64 (e : Int))
  rf : ∀ o, W.frozen? ⟨R, o, none⟩ = false
  row : ∀ (j : Nat) (h : j < bs.length), W.cell? ⟨g, j, none⟩ = some (cel bs[j])
  ne : g ≠ R
theorem Rd.at_ {W : World} {R g : Nat} {bs : List UInt8} {a e : Nat} (h : Rd W R g bs a e) (x : Nat) : Rd (W.setCell ⟨R, 1, none⟩ (.int .i64 (x : Int))) R g bs x e := by
  obtain ⟨cb, ca, ce, rf, row, ne⟩ := h
  refine ⟨by go_simp, by go_simp, by go_simp, fun o => ?_, fun j hj => ?_, ne⟩
  · have := rf o; go_simp
  · have := row j hj
    have ne' : ¬ g = R := ne
    rw [World.cell?_of_block (a := ⟨g, j, none⟩) (Below.heap_setCell W ⟨R, 1, none⟩ _ g ne)]
    exact this
theorem Rd.err {W : World} {R g : Nat} {bs : List UInt8} {a e : Nat} (h : Rd W R g bs a e) (x : Nat) : Rd (W.setCell ⟨R, 2, none⟩ (.int .i64 (x : Int))) R g bs a x := by
  obtain ⟨cb, ca, ce, rf, row, ne⟩ := h
  refine ⟨by go_simp, by go_simp, by go_simp, fun o => ?_, fun j hj => ?_, ne⟩
  · have := rf o; go_simp
  · have := row j hj
    rw [World.cell?_of_block (a := ⟨g, j, none⟩) (Below.heap_setCell W ⟨R, 2, none⟩ _ g ne)]
    exact this
theorem Rd.drew {W : World} {R g : Nat} {bs : List UInt8} {a e : Nat} (h : Rd W R g bs a e) : Rd W.drew R g bs a e := ⟨h.cb, h.ca, h.ce, h.rf, h.row, h.ne⟩
theorem cell_drewN {W : World} (n : Nat) (p : Addr) : (W.drewN n).cell? p = W.cell? p := by
  induction n generalizing W with
  | zero => rfl
  | succ n ih => rw [← World.drew_drewN]; exact ih
theorem frozen_drewN {W : World} (n : Nat) (p : Addr) : (W.drewN n).frozen? p = W.frozen? p := by
  induction n generalizing W with
  | zero => rfl
  | succ n ih => rw [← World.drew_drewN]; exact ih
theorem Rd.drewN {W : World} {R g : Nat} {bs : List UInt8} {a e : Nat} (h : Rd W R g bs a e) (n : Nat) : Rd (W.drewN n) R g bs a e :=
  ⟨(cell_drewN n _).trans h.cb, (cell_drewN n _).trans h.ca, (cell_drewN n _).trans h.ce, fun o => (frozen_drewN n _).trans (h.rf o), fun j hj => (cell_drewN n _).trans (h.row j hj), h.ne⟩

theorem take_bad (R g a e n : Nat) (bs : List UInt8) (w : World) (h : Rd w R g bs a e) (he : 0 < e) :
    Calls Tryz.prog 65 #[.pointer (some ⟨R, 0, none⟩), .int .i64 (n : Int)] w fun x w' => x = .returned (.tuple #[.slice none 0 0, .bool false]) ∧ w' = w := by
  obtain ⟨cb, ca, ce, rf, row, ne⟩ := h
  have i1 : ((e : Int) == 0) = false := by rw [beq_eq_false_iff_ne]; omega
  clear cb row rf
  go_enter Tryz.func65, Tryz.ntmps65
  go_wp2
  go_ret2
  exact ⟨rfl, rfl⟩

set_option maxHeartbeats 1000000 in
theorem take_short (R g a n : Nat) (bs : List UInt8) (w : World) (h : Rd w R g bs a 0) (hm : bs.length ≤ 18) (hn : n ≤ 8) (ha : a ≤ bs.length) (hs : bs.length < a + n) :
    Calls Tryz.prog 65 #[.pointer (some ⟨R, 0, none⟩), .int .i64 (n : Int)] w fun x w' => x = .returned (.tuple #[.slice none 0 0, .bool false]) ∧ Rd w' R g bs a 10 ∧ But R w w' := by
  have hd := fun k => (h.drewN k).err 10
  obtain ⟨m, hm'⟩ : ∃ m, bs.length = m := ⟨_, rfl⟩
  obtain ⟨cb, ca, ce, rf, row, ne⟩ := h
  rw [hm'] at cb
  have hm2 : m ≤ 18 := by omega
  have ham : a ≤ m := by omega
  have hsm : m < a + n := by omega
  have i1 : ¬ (n : Int) < 0 := by omega
  have i2 : (m : Int) - (a : Int) < (n : Int) := by omega
  have i3 : IntKind.i64.wrap ((m : Int) - (a : Int)) = (m : Int) - (a : Int) := IntWalk.i64_in _ ⟨by omega, by omega⟩
  clear row hm' hs ha hm
  go_enter Tryz.func65, Tryz.ntmps65
  go_wp2
  go_quiet (fail)
  go_wp2
  go_ret2
  exact ⟨rfl, hd _, ((But.refl R w).drewN _).set 2 _⟩

set_option maxHeartbeats 1000000 in
theorem take_yes (R g a n : Nat) (bs : List UInt8) (w : World) (h : Rd w R g bs a 0) (hm : bs.length ≤ 18) (hn : n ≤ 8) (hn0 : 0 < n) (hs : a + n ≤ bs.length) :
    Calls Tryz.prog 65 #[.pointer (some ⟨R, 0, none⟩), .int .i64 (n : Int)] w fun x w' => x = .returned (.tuple #[.slice (some ⟨g, a, none⟩) n n, .bool true]) ∧ Rd w' R g bs (a + n) 0 ∧ But R w w' := by
  have hd := fun k => (h.drewN k).at_ (a + n)
  obtain ⟨m, hm'⟩ : ∃ m, bs.length = m := ⟨_, rfl⟩
  obtain ⟨cb, ca, ce, rf, row, ne⟩ := h
  rw [hm'] at cb
  have hm2 : m ≤ 18 := by omega
  have ham : a + n ≤ m := by omega
  have i1 : ¬ (n : Int) < 0 := by omega
  have i2 : ¬ (m : Int) - (a : Int) < (n : Int) := by omega
  have i3 : IntKind.i64.wrap ((m : Int) - (a : Int)) = (m : Int) - (a : Int) := IntWalk.i64_in _ ⟨by omega, by omega⟩
  have i4 : IntKind.i64.wrap ((a : Int) + (n : Int)) = ((a + n : Nat) : Int) := by rw [IntWalk.i64_in _ ⟨by omega, by omega⟩]; simp
  clear row hm' hs hm
  go_enter Tryz.func65, Tryz.ntmps65
  go_wp2
  go_quiet (fail)
  go_wp2
  go_quiet (fail)
  go_wp2
  go_ret2
  refine ⟨?_, hd _, ((But.refl R w).drewN _).set 1 _⟩
  show Ending.returned (.tuple #[.slice (some ⟨g, a, none⟩) (a + n - a) (a + n - a), .bool true]) = _
  rw [Nat.add_sub_cancel_left]

end Go.Proofs.YtnodiejfhkjliaaGreatDoor.Pf

namespace Go.Proofs.YtnodiejfhkjliaaGreatDoor.Pf
open Go.RowKit Go.Proofs.YtnodiejfhkjliaaGreatDoor.Wd Go.Proofs.YtnodiejfhkjliaaGreatDoor.Px Go.Proofs.YtnodiejfhkjliaaGreatDoor.By

theorem ofB_takeS {l : List UInt8} {k : Nat} (h : k < l.length) : ofB (l.take (k + 1)) = ofB (l.take k) * 256 + l[k].toNat := by
  rw [List.take_add_one, List.getElem?_eq_getElem h]
  exact ofB_snoc _ _
theorem sh8R (hi : Nat) (h : hi < 72057594037927936) : IntKind.u64.wrap ((hi : Int) * 256) = ((hi * 256 : Nat) : Int) := by
  rw [IntKind.wrap_u64]; omega
theorem or8R (a b : Nat) (hb : b < 256) (ha : a < 72057594037927936) : bits .or .u64 ((a * 256 : Nat) : Int) (b : Int) = ((a * 256 + b : Nat) : Int) := by
  rw [u64_or_nat _ _ (by omega) (by omega)]
  have := Nat.shiftLeft_add_eq_or_of_lt (i := 8) (b := b) (show b < 2 ^ 8 from hb) a
  rw [Nat.shiftLeft_eq] at this
  rw [← this]

theorem width8 (w : World) : Calls Tryz.prog 66 #[] w fun e w' => e = .returned (.int .i64 1) ∧ w' = w := by
  go_enter Tryz.func66, Tryz.ntmps66
  go_wp2
  refine wp_loop_rounds 2 ?_
  rw [rounds_succ]
  go_wp2
  rw [rounds_succ]
  go_wp2
  go_ret
  exact ⟨rfl, rfl⟩
set_option maxHeartbeats 1000000 in
theorem err_any (R g a e : Nat) (bs : List UInt8) (w : World) (h : Rd w R g bs a e) :
    Calls Tryz.prog 29 #[.pointer (some ⟨R, 0, none⟩)] w fun x w' => x = .returned (.tuple #[.int .i64 (e : Int), .int .i64 (a : Int)]) ∧ ∃ n, w' = w.drewN n := by
  obtain ⟨cb, ca, ce, rf, row, ne⟩ := h
  clear cb row rf
  go_enter Tryz.func29, Tryz.ntmps29
  go_wp2
  go_quiet (fail)
  go_wp2
  go_ret2
  exact ⟨rfl, _, rfl⟩

set_option maxHeartbeats 1000000 in
theorem get8_bad (R g a e : Nat) (bs : List UInt8) (w : World) (h : Rd w R g bs a e) (he : 0 < e) :
    Calls Tryz.prog 26 #[.pointer (some ⟨R, 0, none⟩)] w fun x w' => x = .returned (.int .u8 0) ∧ w' = w := by
  go_enter Tryz.func26, Tryz.ntmps26
  go_wp2_with fail
  refine (width8 _).mono ?_
  rintro x w1 ⟨rfl, rfl⟩
  go_wp2_with fail
  refine (take_bad R g a e 1 bs _ h he).mono ?_
  rintro x w1 ⟨rfl, rfl⟩
  go_wp2
  go_ret
  exact ⟨rfl, rfl⟩
set_option maxHeartbeats 1000000 in
theorem get8_short (R g a : Nat) (bs : List UInt8) (w : World) (h : Rd w R g bs a 0) (hm : bs.length ≤ 18) (ha : a ≤ bs.length) (hs : bs.length < a + 1) :
    Calls Tryz.prog 26 #[.pointer (some ⟨R, 0, none⟩)] w fun x w' => x = .returned (.int .u8 0) ∧ Rd w' R g bs a 10 ∧ But R w w' := by
  go_enter Tryz.func26, Tryz.ntmps26
  go_wp2_with fail
  refine (width8 _).mono ?_
  rintro x w1 ⟨rfl, rfl⟩
  go_wp2_with fail
  refine (take_short R g a 1 bs _ h hm (by omega) ha hs).mono ?_
  rintro x w2 ⟨rfl, hR, hB⟩
  go_wp2
  go_ret
  exact ⟨rfl, hR, hB⟩
set_option maxHeartbeats 2000000 in
theorem get8_yes (R g a : Nat) (bs : List UInt8) (w : World) (h : Rd w R g bs a 0) (hm : bs.length ≤ 18) (hs : a + 1 ≤ bs.length) :
    Calls Tryz.prog 26 #[.pointer (some ⟨R, 0, none⟩)] w fun x w' => x = .returned (.int .u8 ((ofB ((bs.drop a).take 1) : Nat) : Int)) ∧ Rd w' R g bs (a + 1) 0 ∧ But R w w' := by
  go_enter Tryz.func26, Tryz.ntmps26
  go_wp2_with fail
  refine (width8 _).mono ?_
  rintro x w1 ⟨rfl, rfl⟩
  go_wp2_with fail
  refine (take_yes R g a 1 bs _ h hm (by omega) (by omega) hs).mono ?_
  rintro x w2 ⟨rfl, hR, hB⟩
  go_wp2
  go_loopw [5, 18] (fun x i wr => wr = w2 ∧ ∃ (k N : Nat), k ≤ 1 ∧ i = .int .i64 (k : Int) ∧ x = .int .u64 (N : Int) ∧ N < 256 ^ k ∧ Hid (N = ofB ((bs.drop a).take k))) (fun _ i _ => 1 - (intOf i).toNat)
  case atStart => exact ⟨rfl, 0, 0, Nat.zero_le _, rfl, rfl, by decide, Lib.hid rfl⟩
  case round =>
    obtain ⟨rfl, k, N, hk, rfl, rfl, hN, HN⟩ := hrel
    by_cases hlt : k < 1
    · have i1 : (k : Int) < 1 := by omega
      have hj : a + k < bs.length := by omega
      have hc := hR.row (a + k) hj
      have hkd : k < (bs.drop a).length := by rw [List.length_drop]; omega
      have hst := ofB_takeS hkd
      rw [List.getElem_drop] at hst
      obtain ⟨u, hu⟩ : ∃ u : Nat, (bs[a + k]'hj).toNat = u := ⟨_, rfl⟩
      have hu2 : u < 256 := by rw [← hu]; exact UInt8.toNat_lt _
      unfold cel at hc
      rw [hu] at hc hst
      have HST := Lib.hid hst
      have hp : (256 : Nat) ^ k ≤ 256 ^ 7 := Nat.pow_le_pow_right (by omega) (by omega)
      have hN2 : N < 72057594037927936 := Nat.lt_of_lt_of_le hN hp
      have hN3 : N * 256 + u < 256 ^ (k + 1) := by rw [Nat.pow_succ]; omega
      have HN3 := Lib.hid hN3
      clear hst hu hp hN hN3 hkd hj
      have e1 : IntKind.u64.wrap ((N : Int) * 256) = (N : Int) * 256 := by rw [sh8R N hN2]; simp
      have e2 : bits .or .u64 ((N : Int) * 256) (u : Int) = ((N * 256 + u : Nat) : Int) := by have := or8R N u hu2 hN2; rwa [Int.natCast_mul] at this
      go_wp2
      go_roundw
      case rel => exact ⟨trivial, k + 1, N * 256 + u, by omega, by go_num, by go_num, HN3.out, Lib.hid (by rw [HST.out, ← HN.out])⟩
      case measure => simp [intOf]; omega
    · obtain rfl : k = 1 := by omega
      have hN2 : N < 256 := hN
      have e1 : IntKind.u8.wrap (N : Int) = (N : Int) := by rw [IntKind.wrap_u8]; omega
      clear hN
      go_wp2
      go_ret
      exact ⟨by rw [← HN.out]; rfl, hR, hB⟩
/-- in one word -/
theorem get8_any (R g a e : Nat) (bs : List UInt8) (w : World) (h : Rd w R g bs a e) (hm : bs.length ≤ 18) (ha : a ≤ bs.length) {x a' e' : Nat} (hx : Hid (rdV bs 1 a e = x)) (ha' : Hid (rdA bs 1 a e = a')) (he' : Hid (rdE bs 1 a e = e')) :
    Calls Tryz.prog 26 #[.pointer (some ⟨R, 0, none⟩)] w fun y w' => y = .returned (.int .u8 (x : Int)) ∧ Rd w' R g bs a' e' ∧ But R w w' := by
  rw [← hx.out, ← ha'.out, ← he'.out]
  by_cases he : e = 0
  · subst he
    by_cases hs : a + 1 ≤ bs.length
    · obtain ⟨h1, h2, h3⟩ := rd_yes hs
      rw [h1, h2, h3]
      exact get8_yes R g a bs w h hm hs
    · obtain ⟨h1, h2, h3⟩ := rd_short (bs := bs) (n := 1) (a := a) (by omega)
      rw [h1, h2, h3]
      exact get8_short R g a bs w h hm ha (by omega)
  · obtain ⟨h1, h2, h3⟩ := rd_bad (bs := bs) (n := 1) (a := a) he
    rw [h1, h2, h3]
    refine (get8_bad R g a e bs w h (by omega)).mono ?_
    rintro y w' ⟨rfl, rfl⟩
    exact ⟨rfl, h, But.refl _ _⟩

set_option maxHeartbeats 1000000 in
theorem get32_bad (R g a e : Nat) (bs : List UInt8) (w : World) (h : Rd w R g bs a e) (he : 0 < e) :
    Calls Tryz.prog 27 #[.pointer (some ⟨R, 0, none⟩)] w fun x w' => x = .returned (.int .u32 0) ∧ w' = w := by
  go_enter Tryz.func27, Tryz.ntmps27
  go_wp2_with fail
  refine (width32 _).mono ?_
  rintro x w1 ⟨rfl, rfl⟩
  go_wp2_with fail
  refine (take_bad R g a e 4 bs _ h he).mono ?_
  rintro x w1 ⟨rfl, rfl⟩
  go_wp2
  go_ret
  exact ⟨rfl, rfl⟩
set_option maxHeartbeats 1000000 in
theorem get32_short (R g a : Nat) (bs : List UInt8) (w : World) (h : Rd w R g bs a 0) (hm : bs.length ≤ 18) (ha : a ≤ bs.length) (hs : bs.length < a + 4) :
    Calls Tryz.prog 27 #[.pointer (some ⟨R, 0, none⟩)] w fun x w' => x = .returned (.int .u32 0) ∧ Rd w' R g bs a 10 ∧ But R w w' := by
  go_enter Tryz.func27, Tryz.ntmps27
  go_wp2_with fail
  refine (width32 _).mono ?_
  rintro x w1 ⟨rfl, rfl⟩
  go_wp2_with fail
  refine (take_short R g a 4 bs _ h hm (by omega) ha hs).mono ?_
  rintro x w2 ⟨rfl, hR, hB⟩
  go_wp2
  go_ret
  exact ⟨rfl, hR, hB⟩
set_option maxHeartbeats 2000000 in
theorem get32_yes (R g a : Nat) (bs : List UInt8) (w : World) (h : Rd w R g bs a 0) (hm : bs.length ≤ 18) (hs : a + 4 ≤ bs.length) :
    Calls Tryz.prog 27 #[.pointer (some ⟨R, 0, none⟩)] w fun x w' => x = .returned (.int .u32 ((ofB ((bs.drop a).take 4) : Nat) : Int)) ∧ Rd w' R g bs (a + 4) 0 ∧ But R w w' := by
  go_enter Tryz.func27, Tryz.ntmps27
  go_wp2_with fail
  refine (width32 _).mono ?_
  rintro x w1 ⟨rfl, rfl⟩
  go_wp2_with fail
  refine (take_yes R g a 4 bs _ h hm (by omega) (by omega) hs).mono ?_
  rintro x w2 ⟨rfl, hR, hB⟩
  go_wp2
  go_loopw [5, 18] (fun x i wr => wr = w2 ∧ ∃ (k N : Nat), k ≤ 4 ∧ i = .int .i64 (k : Int) ∧ x = .int .u64 (N : Int) ∧ N < 256 ^ k ∧ Hid (N = ofB ((bs.drop a).take k))) (fun _ i _ => 4 - (intOf i).toNat)
  case atStart => exact ⟨rfl, 0, 0, Nat.zero_le _, rfl, rfl, by decide, Lib.hid rfl⟩
  case round =>
    obtain ⟨rfl, k, N, hk, rfl, rfl, hN, HN⟩ := hrel
    by_cases hlt : k < 4
    · have i1 : (k : Int) < 4 := by omega
      have hj : a + k < bs.length := by omega
      have hc := hR.row (a + k) hj
      have hkd : k < (bs.drop a).length := by rw [List.length_drop]; omega
      have hst := ofB_takeS hkd
      rw [List.getElem_drop] at hst
      obtain ⟨u, hu⟩ : ∃ u : Nat, (bs[a + k]'hj).toNat = u := ⟨_, rfl⟩
      have hu2 : u < 256 := by rw [← hu]; exact UInt8.toNat_lt _
      unfold cel at hc
      rw [hu] at hc hst
      have HST := Lib.hid hst
      have hp : (256 : Nat) ^ k ≤ 256 ^ 7 := Nat.pow_le_pow_right (by omega) (by omega)
      have hN2 : N < 72057594037927936 := Nat.lt_of_lt_of_le hN hp
      have hN3 : N * 256 + u < 256 ^ (k + 1) := by rw [Nat.pow_succ]; omega
      have HN3 := Lib.hid hN3
      clear hst hu hp hN hN3 hkd hj
      have e1 : IntKind.u64.wrap ((N : Int) * 256) = (N : Int) * 256 := by rw [sh8R N hN2]; simp
      have e2 : bits .or .u64 ((N : Int) * 256) (u : Int) = ((N * 256 + u : Nat) : Int) := by have := or8R N u hu2 hN2; rwa [Int.natCast_mul] at this
      go_wp2
      go_roundw
      case rel => exact ⟨trivial, k + 1, N * 256 + u, by omega, by go_num, by go_num, HN3.out, Lib.hid (by rw [HST.out, ← HN.out])⟩
      case measure => simp [intOf]; omega
    · obtain rfl : k = 4 := by omega
      have hN2 : N < 4294967296 := hN
      have e1 : IntKind.u32.wrap (N : Int) = (N : Int) := by rw [IntKind.wrap_u32]; omega
      clear hN
      go_wp2
      go_ret
      exact ⟨by rw [← HN.out]; rfl, hR, hB⟩
/-- in one word -/
theorem get32_any (R g a e : Nat) (bs : List UInt8) (w : World) (h : Rd w R g bs a e) (hm : bs.length ≤ 18) (ha : a ≤ bs.length) {x a' e' : Nat} (hx : Hid (rdV bs 4 a e = x)) (ha' : Hid (rdA bs 4 a e = a')) (he' : Hid (rdE bs 4 a e = e')) :
    Calls Tryz.prog 27 #[.pointer (some ⟨R, 0, none⟩)] w fun y w' => y = .returned (.int .u32 (x : Int)) ∧ Rd w' R g bs a' e' ∧ But R w w' := by
  rw [← hx.out, ← ha'.out, ← he'.out]
  by_cases he : e = 0
  · subst he
    by_cases hs : a + 4 ≤ bs.length
    · obtain ⟨h1, h2, h3⟩ := rd_yes hs
      rw [h1, h2, h3]
      exact get32_yes R g a bs w h hm hs
    · obtain ⟨h1, h2, h3⟩ := rd_short (bs := bs) (n := 4) (a := a) (by omega)
      rw [h1, h2, h3]
      exact get32_short R g a bs w h hm ha (by omega)
  · obtain ⟨h1, h2, h3⟩ := rd_bad (bs := bs) (n := 4) (a := a) he
    rw [h1, h2, h3]
    refine (get32_bad R g a e bs w h (by omega)).mono ?_
    rintro y w' ⟨rfl, rfl⟩
    exact ⟨rfl, h, But.refl _ _⟩

set_option maxHeartbeats 1000000 in
theorem get64_bad (R g a e : Nat) (bs : List UInt8) (w : World) (h : Rd w R g bs a e) (he : 0 < e) :
    Calls Tryz.prog 28 #[.pointer (some ⟨R, 0, none⟩)] w fun x w' => x = .returned (.int .u64 0) ∧ w' = w := by
  go_enter Tryz.func28, Tryz.ntmps28
  go_wp2_with fail
  refine (width64 _).mono ?_
  rintro x w1 ⟨rfl, rfl⟩
  go_wp2_with fail
  refine (take_bad R g a e 8 bs _ h he).mono ?_
  rintro x w1 ⟨rfl, rfl⟩
  go_wp2
  go_ret
  exact ⟨rfl, rfl⟩
set_option maxHeartbeats 1000000 in
theorem get64_short (R g a : Nat) (bs : List UInt8) (w : World) (h : Rd w R g bs a 0) (hm : bs.length ≤ 18) (ha : a ≤ bs.length) (hs : bs.length < a + 8) :
    Calls Tryz.prog 28 #[.pointer (some ⟨R, 0, none⟩)] w fun x w' => x = .returned (.int .u64 0) ∧ Rd w' R g bs a 10 ∧ But R w w' := by
  go_enter Tryz.func28, Tryz.ntmps28
  go_wp2_with fail
  refine (width64 _).mono ?_
  rintro x w1 ⟨rfl, rfl⟩
  go_wp2_with fail
  refine (take_short R g a 8 bs _ h hm (by omega) ha hs).mono ?_
  rintro x w2 ⟨rfl, hR, hB⟩
  go_wp2
  go_ret
  exact ⟨rfl, hR, hB⟩
set_option maxHeartbeats 2000000 in
theorem get64_yes (R g a : Nat) (bs : List UInt8) (w : World) (h : Rd w R g bs a 0) (hm : bs.length ≤ 18) (hs : a + 8 ≤ bs.length) :
    Calls Tryz.prog 28 #[.pointer (some ⟨R, 0, none⟩)] w fun x w' => x = .returned (.int .u64 ((ofB ((bs.drop a).take 8) : Nat) : Int)) ∧ Rd w' R g bs (a + 8) 0 ∧ But R w w' := by
  go_enter Tryz.func28, Tryz.ntmps28
  go_wp2_with fail
  refine (width64 _).mono ?_
  rintro x w1 ⟨rfl, rfl⟩
  go_wp2_with fail
  refine (take_yes R g a 8 bs _ h hm (by omega) (by omega) hs).mono ?_
  rintro x w2 ⟨rfl, hR, hB⟩
  go_wp2
  go_loopw [5, 18] (fun x i wr => wr = w2 ∧ ∃ (k N : Nat), k ≤ 8 ∧ i = .int .i64 (k : Int) ∧ x = .int .u64 (N : Int) ∧ N < 256 ^ k ∧ Hid (N = ofB ((bs.drop a).take k))) (fun _ i _ => 8 - (intOf i).toNat)
  case atStart => exact ⟨rfl, 0, 0, Nat.zero_le _, rfl, rfl, by decide, Lib.hid rfl⟩
  case round =>
    obtain ⟨rfl, k, N, hk, rfl, rfl, hN, HN⟩ := hrel
    by_cases hlt : k < 8
    · have i1 : (k : Int) < 8 := by omega
      have hj : a + k < bs.length := by omega
      have hc := hR.row (a + k) hj
      have hkd : k < (bs.drop a).length := by rw [List.length_drop]; omega
      have hst := ofB_takeS hkd
      rw [List.getElem_drop] at hst
      obtain ⟨u, hu⟩ : ∃ u : Nat, (bs[a + k]'hj).toNat = u := ⟨_, rfl⟩
      have hu2 : u < 256 := by rw [← hu]; exact UInt8.toNat_lt _
      unfold cel at hc
      rw [hu] at hc hst
      have HST := Lib.hid hst
      have hp : (256 : Nat) ^ k ≤ 256 ^ 7 := Nat.pow_le_pow_right (by omega) (by omega)
      have hN2 : N < 72057594037927936 := Nat.lt_of_lt_of_le hN hp
      have hN3 : N * 256 + u < 256 ^ (k + 1) := by rw [Nat.pow_succ]; omega
      have HN3 := Lib.hid hN3
      clear hst hu hp hN hN3 hkd hj
      have e1 : IntKind.u64.wrap ((N : Int) * 256) = (N : Int) * 256 := by rw [sh8R N hN2]; simp
      have e2 : bits .or .u64 ((N : Int) * 256) (u : Int) = ((N * 256 + u : Nat) : Int) := by have := or8R N u hu2 hN2; rwa [Int.natCast_mul] at this
      go_wp2
      go_roundw
      case rel => exact ⟨trivial, k + 1, N * 256 + u, by omega, by go_num, by go_num, HN3.out, Lib.hid (by rw [HST.out, ← HN.out])⟩
      case measure => simp [intOf]; omega
    · obtain rfl : k = 8 := by omega
      have hN2 : N < 18446744073709551616 := hN
      have e1 : IntKind.u64.wrap (N : Int) = (N : Int) := by rw [IntKind.wrap_u64]; omega
      clear hN
      go_wp2
      go_ret
      exact ⟨by rw [← HN.out]; rfl, hR, hB⟩
/-- in one word -/
theorem get64_any (R g a e : Nat) (bs : List UInt8) (w : World) (h : Rd w R g bs a e) (hm : bs.length ≤ 18) (ha : a ≤ bs.length) {x a' e' : Nat} (hx : Hid (rdV bs 8 a e = x)) (ha' : Hid (rdA bs 8 a e = a')) (he' : Hid (rdE bs 8 a e = e')) :
    Calls Tryz.prog 28 #[.pointer (some ⟨R, 0, none⟩)] w fun y w' => y = .returned (.int .u64 (x : Int)) ∧ Rd w' R g bs a' e' ∧ But R w w' := by
  rw [← hx.out, ← ha'.out, ← he'.out]
  by_cases he : e = 0
  · subst he
    by_cases hs : a + 8 ≤ bs.length
    · obtain ⟨h1, h2, h3⟩ := rd_yes hs
      rw [h1, h2, h3]
      exact get64_yes R g a bs w h hm hs
    · obtain ⟨h1, h2, h3⟩ := rd_short (bs := bs) (n := 8) (a := a) (by omega)
      rw [h1, h2, h3]
      exact get64_short R g a bs w h hm ha (by omega)
  · obtain ⟨h1, h2, h3⟩ := rd_bad (bs := bs) (n := 8) (a := a) he
    rw [h1, h2, h3]
    refine (get64_bad R g a e bs w h (by omega)).mono ?_
    rintro y w' ⟨rfl, rfl⟩
    exact ⟨rfl, h, But.refl _ _⟩

end Go.Proofs.YtnodiejfhkjliaaGreatDoor.Pf

namespace Go.Proofs.YtnodiejfhkjliaaGreatDoor.Pf
open Go.RowKit Go.Proofs.YtnodiejfhkjliaaGreatDoor.Wd Go.Proofs.YtnodiejfhkjliaaGreatDoor.Px Go.Proofs.YtnodiejfhkjliaaGreatDoor.By

/-- copy over a whole row of the call's own -/
theorem wpList_copy_all {P : Program} {w : World} {ops : Array Oper} {rest : List Oper} {o : Oper} {a : Act} {Q : Exit → Act → World → Prop} (hgd : o.guard = none) (d s : Operand) (dT sT : TypeId)
    (ho : o.op = .call { callee := .builtin .copy, args := #[d, s], argTypes := #[dT, sT] }) (elem : TypeId) (hu : P.underlying dT = some (.slice elem)) (hsz : (P.info? elem).map (·.size) = some 1)
    (g n c c2 : Nat) (sp : Option Addr) (hd : a.eval d = .slice (some ⟨g, 0, none⟩) n c) (hs : a.eval s = .slice sp n c2) (cur : Array Value) (t : TypeId) (hg : w.heap[g]? = some (.cells cur t (0, 0))) (hcur : cur.size = n)
    (cs : List Value) (hn : cs.length = n) (hpos : 0 < n → ∃ ad, sp = some ad ∧ ∀ j v, cs[j]? = some v → w.cell? (ad.add j) = some v) (h1 : ∀ v ∈ cs, v.oneCell' = true)
    (h : ∀ w', Hid (w'.heap[g]? = some (.cells cs.toArray t (0, 0))) → But g w w' → wpList P ops Q rest (a.put o.dst (goInt n)) w') : wpList P ops Q (o :: rest) a w := by
  by_cases h0 : n = 0
  · subst h0
    obtain rfl : cs = [] := List.eq_nil_of_length_eq_zero hn
    obtain rfl : cur = #[] := Array.eq_empty_of_size_eq_zero hcur
    refine wpList_copy_nothing hgd d s dT sT ho elem hu hsz _ sp 0 c 0 c2 hd hs rfl ?_
    exact h w (Lib.hid hg) (But.refl _ _)
  · obtain ⟨ad, rfl, hsrc⟩ := hpos (by omega)
    refine wpList_copy_own hgd d s dT sT ho elem hu hsz g 0 n c ad n c2 hd hs cur t hg cs (by rw [hn]; exact (Nat.min_self n).symm) hsrc (by omega) h1 ?_
    have e : (cur.toList.take 0 ++ (cs ++ cur.toList.drop (0 + cs.length))).toArray = cs.toArray := by
      rw [List.take_zero, List.nil_append, List.drop_of_length_le (by rw [Array.length_toList]; omega), List.append_nil]
    rw [e, hn]
    exact h _ (Lib.hid (setRow_heap w g cur _ t _ hg)) ⟨fun k hk => setRow_other w g k _ hk, by simp [World.setRow], fun B w0 hB hb => below_setRow hb hB _⟩

theorem rd_new {w W : World} {bs : List UInt8} {t : TypeId} {n : Nat} (hn : bs.length = n) (cur : Array Value) (hb : But w.heap.size ((w.alloc (.cells cur 5)).alloc (.cells #[.slice (some ⟨w.heap.size, 0, none⟩) n n, .int .i64 0, .int .i64 0] t)) W)
    (hg : W.heap[w.heap.size]? = some (.cells (bs.map cel).toArray 5 (0, 0))) : Rd W (w.heap.size + 1) w.heap.size bs 0 0 := by
  subst hn
  have hne : w.heap.size + 1 ≠ w.heap.size := by omega
  refine ⟨hb.cell hne (by go_simp), hb.cell hne (by go_simp), hb.cell hne (by go_simp), hb.frz hne (fun o => by go_simp), fun j hj => ?_, by omega⟩
  rw [cell_of_row W w.heap.size j _ _ _ hg]
  simp [hj]

set_option maxHeartbeats 1000000 in
theorem newreader_any (bs : List UInt8) (A : Option Addr) (n c : Nat) (w : World) (hn : bs.length = n) (hn18 : n ≤ 18) (ha : Shows cel w w.heap.size A bs) :
    Calls Tryz.prog 25 #[.slice A n c] w fun e w' => e = .returned (.pointer (some ⟨w.heap.size + 1, 0, none⟩)) ∧ Rd w' (w.heap.size + 1) w.heap.size bs 0 0 ∧ Below w.heap.size w w' ∧ w'.heap.size = w.heap.size + 2 := by
  obtain ⟨i0, hi0, hz0, hz1, hz2⟩ := info_parts Tryz.infoB
  have hmk : ∀ w : World, (Instr.makeSlice 44 (.int .i64 (n : Int)) (.int .i64 (n : Int))).run Tryz.prog w = .ok (.slice (some ⟨w.heap.size, 0, none⟩) n n) (w.alloc (.cells (madeCells (Value.int .u8 0).cells (n * i0.size)) 5)) := fun w => by
    have := run_make (P := Tryz.prog) w 44 5 i0 (.int .u8 0) Tryz.underlying44 hi0 hz0 .i64 .i64 (n : Int) (n : Int) (by omega) (Int.le_refl _) (by rw [hz2]; omega) (by omega)
    simpa using this
  obtain ⟨cur, hcur⟩ : ∃ cur, madeCells (Value.int .u8 0).cells (n * i0.size) = cur := ⟨_, rfl⟩
  have hsz : cur.size = n := by rw [← hcur, size_madeCells, hz1, Nat.mul_one]
  rw [hcur] at hmk
  have HN := Lib.hid hn
  have HA := Lib.hid ha
  have HSZ := Lib.hid hsz
  clear hcur hsz hn ha
  go_enter Tryz.func25, Tryz.ntmps25
  go_wp2_with (with_reducible refine wpList_copy_all rfl (.tmp 12) (.tmp 13) 44 44 rfl 5 Tryz.underlying44 Tryz.sizeB w.heap.size n n c A rfl rfl cur 5 ?hg HSZ.out (bs.map cel) ?hn ?hpos ?h1 ?_)
  case hg => exact (heap_alloc_old _ _ (by simp)).trans (heap_alloc_new _ _)
  case hn => rw [List.length_map]; exact HN.out
  case hpos =>
    intro h0
    obtain ⟨b, o, rfl, hb2, hc⟩ := HA.out (by rw [HN.out]; exact h0)
    refine ⟨_, rfl, fun j v hv => ?_⟩
    rw [List.getElem?_map] at hv
    obtain ⟨x, hx, rfl⟩ := Option.map_eq_some_iff.1 hv
    have e : (⟨b, o, none⟩ : Addr).add j = ⟨b, o + j, none⟩ := by unfold Addr.add; split <;> simp_all
    rw [e]
    exact keepc (two w _ _) (hc j x hx)
  case h1 => exact cels_one bs
  intro w2 hg2 hb2
  have hR := rd_new HN.out cur hb2 hg2.out
  have hbl := hb2.bl w.heap.size w (Nat.le_refl _) (two w _ _)
  have hsz2 := hb2.size
  have cb := hR.cb
  clear hb2 hg2 hmk
  go_wp2
  go_ret
  exact ⟨rfl, hR, hbl, by simpa using hsz2⟩

end Go.Proofs.YtnodiejfhkjliaaGreatDoor.Pf

namespace Go.Proofs.YtnodiejfhkjliaaGreatDoor.Pf
open Go.RowKit Go.Proofs.YtnodiejfhkjliaaGreatDoor.Wd Go.Proofs.YtnodiejfhkjliaaGreatDoor.Px Go.Proofs.YtnodiejfhkjliaaGreatDoor.By

def ofG : Option (Int × Nat × Nat × Int × Nat) → Value
  | some (f, hi, lo, b, n) => .tuple #[.agg #[.int .i64 f, .int .u64 (hi : Int), .int .u64 (lo : Int), .int .i64 b], .int .i64 (n : Int), .int .i64 0]
  | none => .tuple #[.agg #[.int .i64 0, .int .u64 0, .int .u64 0, .int .i64 0], .int .i64 0, .int .i64 70]
theorem gtR_4 {bs : List UInt8} {a1 e1 y a2 e2 lo a3 e3 : Nat} (h1 : rdV bs 1 0 0 = 4) (h2 : rdA bs 1 0 0 = a1) (h3 : rdE bs 1 0 0 = e1) (h4 : rdV bs 1 a1 e1 = y) (h5 : rdA bs 1 a1 e1 = a2) (h6 : rdE bs 1 a1 e1 = e2) (h7 : rdV bs 4 a2 e2 = lo) (h8 : rdA bs 4 a2 e2 = a3) (h9 : rdE bs 4 a2 e2 = e3) :
    gtR bs = if e3 = 0 ∧ vP 4 0 lo (y : Int) = true then some (4, 0, lo, (y : Int), a3) else none := by
  subst h2 h3 h4 h5 h6 h7 h8 h9
  simp only [gtR]
  rw [if_pos h1]
theorem gtR_6 {bs : List UInt8} {x a1 e1 y a2 e2 hi a3 e3 lo a4 e4 : Nat} (hx : x ≠ 4) (h1 : rdV bs 1 0 0 = x) (h2 : rdA bs 1 0 0 = a1) (h3 : rdE bs 1 0 0 = e1) (h4 : rdV bs 1 a1 e1 = y) (h5 : rdA bs 1 a1 e1 = a2) (h6 : rdE bs 1 a1 e1 = e2) (h7 : rdV bs 8 a2 e2 = hi) (h8 : rdA bs 8 a2 e2 = a3) (h9 : rdE bs 8 a2 e2 = e3) (h10 : rdV bs 8 a3 e3 = lo) (h11 : rdA bs 8 a3 e3 = a4) (h12 : rdE bs 8 a3 e3 = e4) :
    gtR bs = if e4 = 0 ∧ vP (x : Int) hi lo (y : Int) = true then some ((x : Int), hi, lo, (y : Int), a4) else none := by
  subst h1 h2 h3 h4 h5 h6 h7 h8 h9 h10 h11 h12
  simp only [gtR]
  rw [if_neg hx]

theorem Rd.on {W W' : World} {R g : Nat} {bs : List UInt8} {a e : Nat} (h : Rd W R g bs a e) (hb : Below W.heap.size W W') : Rd W' R g bs a e :=
  ⟨keepc hb h.cb, keepc hb h.ca, keepc hb h.ce, keepf hb (World.block_lt_of_cell? W _ h.cb) h.rf, fun j hj => keepc hb (h.row j hj), h.ne⟩
theorem PS.but {w W W' : World} {R : Nat} (h : PS w W) (hb : But R W W') (hR : w.heap.size < R) : PS w W' :=
  ⟨hb.cell (by omega) h.c0, hb.cell (by omega) h.c1, hb.cell (by omega) h.c2, hb.cell (by omega) h.c3, hb.frz (by omega) h.fz, by rw [hb.size]; exact h.lt, hb.bl _ _ (by omega) h.bl⟩

/-- the world of Get: the result's block, the reader, the prefix so far -/
structure GG (w : World) (R g P : Nat) (bs : List UInt8) (a e : Nat) (f : Int) (hi lo : Nat) (b : Int) (W : World) : Prop where
  ps : PS w W
  rd : Rd W R g bs a e
  p0 : W.cell? ⟨P, 0, none⟩ = some (.int .i64 f)
  p1 : W.cell? ⟨P, 1, none⟩ = some (.int .u64 (hi : Int))
  p2 : W.cell? ⟨P, 2, none⟩ = some (.int .u64 (lo : Int))
  p3 : W.cell? ⟨P, 3, none⟩ = some (.int .i64 b)
  pf : ∀ o, W.frozen? ⟨P, o, none⟩ = false
  hR : w.heap.size < R
  hP : w.heap.size < P
  hRP : R ≠ P
  hgP : g ≠ P
section
variable {w W W' : World} {R g P a e a' e' : Nat} {bs : List UInt8} {f : Int} {hi lo : Nat} {b : Int}
theorem GG.but (h : GG w R g P bs a e f hi lo b W) (hb : But R W W') (hr : Rd W' R g bs a' e') : GG w R g P bs a' e' f hi lo b W' :=
  ⟨h.ps.but hb h.hR, hr, hb.cell (Ne.symm h.hRP) h.p0, hb.cell (Ne.symm h.hRP) h.p1, hb.cell (Ne.symm h.hRP) h.p2, hb.cell (Ne.symm h.hRP) h.p3, hb.frz (Ne.symm h.hRP) h.pf, h.hR, h.hP, h.hRP, h.hgP⟩
theorem GG.on (h : GG w R g P bs a e f hi lo b W) (hb : Below W.heap.size W W') : GG w R g P bs a e f hi lo b W' :=
  ⟨h.ps.on hb, h.rd.on hb, keepc hb h.p0, keepc hb h.p1, keepc hb h.p2, keepc hb h.p3, keepf hb (World.block_lt_of_cell? W _ h.p0) h.pf, h.hR, h.hP, h.hRP, h.hgP⟩
theorem GG.new (hs : PS w W) (hr : Rd W R g bs a e) (hR : w.heap.size < R) (hRl : R < W.heap.size) (hgl : g < W.heap.size) (f : Int) (b : Int) : GG w R g W.heap.size bs a e f 0 0 b (W.alloc (.cells #[.int .i64 f, .int .u64 0, .int .u64 0, .int .i64 b] 50)) :=
  ⟨hs.on (one _ _), hr.on (one _ _), by go_simp, by go_simp, by go_simp, by go_simp, fun o => by go_simp, hR, hs.lt, by omega, by omega⟩
theorem PS.far (h : PS w W) (hP : w.heap.size < P) (o : Nat) (v : Value) : PS w (W.setCell ⟨P, o, none⟩ v) :=
  h.but (R := P) ((But.refl P W).set o v) hP
theorem Rd.far (h : Rd W R g bs a e) (h1 : R ≠ P) (h2 : g ≠ P) (o : Nat) (v : Value) : Rd (W.setCell ⟨P, o, none⟩ v) R g bs a e :=
  have hb := (But.refl P W).set o v
  ⟨hb.cell h1 h.cb, hb.cell h1 h.ca, hb.cell h1 h.ce, hb.frz h1 h.rf, fun j hj => hb.cell h2 (h.row j hj), h.ne⟩
theorem GG.hi_ (h : GG w R g P bs a e f hi lo b W) (x : Nat) : GG w R g P bs a e f x lo b (W.setCell ⟨P, 1, none⟩ (.int .u64 (x : Int))) := by
  obtain ⟨ps, rd, p0, p1, p2, p3, pf, hR, hP, hRP, hgP⟩ := h
  refine ⟨ps.far hP _ _, rd.far hRP hgP _ _, by go_simp, by go_simp, by go_simp, by go_simp, fun o => ?_, hR, hP, hRP, hgP⟩
  have := pf o
  go_simp
theorem GG.lo_ (h : GG w R g P bs a e f hi lo b W) (x : Nat) : GG w R g P bs a e f hi x b (W.setCell ⟨P, 2, none⟩ (.int .u64 (x : Int))) := by
  obtain ⟨ps, rd, p0, p1, p2, p3, pf, hR, hP, hRP, hgP⟩ := h
  refine ⟨ps.far hP _ _, rd.far hRP hgP _ _, by go_simp, by go_simp, by go_simp, by go_simp, fun o => ?_, hR, hP, hRP, hgP⟩
  have := pf o
  go_simp
theorem GG.drawn (h : GG w R g P bs a e f hi lo b W) (n : Nat) : GG w R g P bs a e f hi lo b (W.drewN n) := h.on (below_of_drewN n)
end

set_option maxRecDepth 20000 in
set_option maxHeartbeats 4000000 in
theorem get_four (bs : List UInt8) (ad : Option Addr) (c n m : Nat) (w : World) (hbs : bs.length = m) (hsh : Shows cel w w.heap.size ad bs)
    (hmin : min (n : Int) 18 = (m : Int)) (hmc : m ≤ c) (hm18 : m ≤ 18) (h4 : ∀ x, rdV bs 1 0 0 = x → x = 4) :
    Calls Tryz.prog 8 #[.slice ad n c] w fun e w' => e = .returned (ofG (gtR bs)) ∧ Below w.heap.size w w' := by
  obtain ⟨x, hx⟩ : ∃ x, rdV bs 1 0 0 = x := ⟨_, rfl⟩
  obtain ⟨a1, ha1⟩ : ∃ x, rdA bs 1 0 0 = x := ⟨_, rfl⟩
  obtain ⟨e1, he1⟩ : ∃ x, rdE bs 1 0 0 = x := ⟨_, rfl⟩
  obtain ⟨y, hy⟩ : ∃ x, rdV bs 1 a1 e1 = x := ⟨_, rfl⟩
  obtain ⟨a2, ha2⟩ : ∃ x, rdA bs 1 a1 e1 = x := ⟨_, rfl⟩
  obtain ⟨e2, he2⟩ : ∃ x, rdE bs 1 a1 e1 = x := ⟨_, rfl⟩
  have la1 : a1 ≤ bs.length := by rw [← ha1]; exact rdA_le (by omega)
  have la2 : a2 ≤ bs.length := by rw [← ha2]; exact rdA_le la1
  have lx : x < 256 := by rw [← hx]; exact rdV_lt
  have ly : y < 256 := by rw [← hy]; exact rdV_lt
  have le1 : e1 ≤ 10 := by rw [← he1]; exact rdE_le (by omega)
  have le2 : e2 ≤ 10 := by rw [← he2]; exact rdE_le le1
  obtain ⟨lo, hlo'⟩ : ∃ x, rdV bs 4 a2 e2 = x := ⟨_, rfl⟩
  obtain ⟨a3, ha3⟩ : ∃ x, rdA bs 4 a2 e2 = x := ⟨_, rfl⟩
  obtain ⟨e3, he3⟩ : ∃ x, rdE bs 4 a2 e2 = x := ⟨_, rfl⟩
  have llo : lo < 256 ^ 4 := by rw [← hlo']; exact rdV_lt
  have hlo : lo < 18446744073709551616 := by omega
  have la3 : a3 ≤ 18 := by have := rdA_le (bs := bs) (n := 4) (e := e2) la2; omega
  have le3 : e3 ≤ 10 := by rw [← he3]; exact rdE_le le2
  have HL := Lib.hid hlo'
  have HA3 := Lib.hid ha3
  have HE3 := Lib.hid he3
  obtain rfl : x = 4 := h4 x hx
  clear hlo' ha3 he3 h4
  have HX := Lib.hid hx
  have HA1 := Lib.hid ha1
  have HE1 := Lib.hid he1
  have HY := Lib.hid hy
  have HA2 := Lib.hid ha2
  have HE2 := Lib.hid he2
  have HBS := Lib.hid hbs
  have hs := PS.new w 50
  have hm18' : bs.length ≤ 18 := by rw [hbs]; exact hm18
  have LB := Lib.hid hm18'
  have LA1 := Lib.hid la1
  have LA2 := Lib.hid la2
  clear hx ha1 he1 hy ha2 he2 hbs la1 la2 hm18'
  go_enter Tryz.func8, Tryz.ntmps8
  go_wp2_with fail
  refine (newreader_any bs ad m c _ HBS.out hm18 (hsh.on (one w _))).mono ?_
  rintro z w1 ⟨rfl, hR1, hb1, hz1⟩
  have hs1 := hs.on hb1
  obtain ⟨R, hRe⟩ : ∃ R, (w.alloc (.cells #[.int .i64 0, .int .u64 0, .int .u64 0, .int .i64 0] 50)).heap.size + 1 = R := ⟨_, rfl⟩
  obtain ⟨g, hge⟩ : ∃ g, (w.alloc (.cells #[.int .i64 0, .int .u64 0, .int .u64 0, .int .i64 0] 50)).heap.size = g := ⟨_, rfl⟩
  have q1 : w.heap.size < R := by rw [← hRe]; simp; omega
  have q2 : R < w1.heap.size := by omega
  have q3 : g < w1.heap.size := by omega
  rw [hRe] at hR1 ⊢
  rw [hge] at hR1
  clear hs hb1 hz1 hRe hge
  go_wp2_with fail
  refine (get8_any R g 0 0 bs _ hR1 LB.out (Nat.zero_le _) HX HA1 HE1).mono ?_
  rintro z w2 ⟨rfl, hR2, hB2⟩
  have hs2 := hs1.but hB2 q1
  go_wp2_with fail
  refine (get8_any R g a1 e1 bs _ hR2 LB.out LA1.out HY HA2 HE2).mono ?_
  rintro z w3 ⟨rfl, hR3, hB3⟩
  have hs3 := hs2.but hB3 q1
  have hG3 := GG.new hs3 hR3 q1 (by rw [hB3.size, hB2.size]; exact q2) (by rw [hB3.size, hB2.size]; exact q3) 4 (y : Int)
  clear hs1 hs2 hR1 hR2 hB2 hB3 hs3 hR3 q2 q3
  obtain ⟨P, hPe⟩ : ∃ P, w3.heap.size = P := ⟨_, rfl⟩
  rw [hPe] at hG3
  have c40 := hG3.p0
  have c41 := hG3.pf
  go_wp2_with fail
  refine (get32_any R g a2 e2 bs _ hG3.rd LB.out LA2.out HL HA3 HE3).mono ?_
  rintro z w4 ⟨rfl, hR4, hB4⟩
  have hG4 := (hG3.but hB4 hR4)
  have hG5 := hG4.lo_ lo
  have c50 := hG4.p0
  have c52 := hG4.p2
  have c53 := hG4.pf
  clear hG3 hB4 hR4 c40 c41
  go_wp2_with fail
  refine (err_any R g a3 e3 bs _ hG5.rd).mono ?_
  rintro z w9 ⟨rfl, nd, rfl⟩
  have hGd := hG5.drawn nd
  generalize World.drewN _ nd = w9 at hGd ⊢
  clear hG4 c50 c52 c53
  by_cases he : e3 = 0
  · have HE0 := Lib.hid he
    have i9 : ((e3 : Int) == 0) = true := by rw [beq_iff_eq]; omega
    obtain ⟨ps, rd, p0, p1, p2, p3, pf, -, -, -, -⟩ := id hGd
    cases hv : vP (4) (0 : Nat) lo (y : Int) with
    | true =>
      have HV := Lib.hid hv
      clear hv he rd ps pf
      go_wp2_with fail
      refine (vvalid_as HV _ (by omega) hlo).mono ?_
      rintro z w10 ⟨rfl, hb10⟩
      have hG10 := hGd.on hb10
      have hx := hG10.ps.tell (4) 0 (lo : Int) (y : Int)
      obtain ⟨⟨c0, c1, c2, c3, fz, lt, bl⟩, rd, q0, q1, q2, q3, pf, -, -, -, -⟩ := hG10
      clear p0 p1 p2 p3 hb10 hGd rd pf
      go_wp2
      clear c0 c1 c2 c3
      obtain ⟨c0, c1, c2, c3, bl⟩ := hx
      refine bodyPost_ret (v := .tuple #[.agg #[.int .i64 (4), .int .u64 0, .int .u64 (lo : Int), .int .i64 (y : Int)], .int .i64 (a3 : Int), .int .i64 0]) (by simp [results, Tryz.results8, go_sem, c0, c1, c2, c3]) rfl ⟨?_, bl⟩
      rw [gtR_4 HX.out HA1.out HE1.out HY.out HA2.out HE2.out HL.out HA3.out HE3.out, if_pos ⟨HE0.out, HV.out⟩]
      rfl
    | false =>
      have HV := Lib.hid hv
      clear hv he rd ps pf
      go_wp2_with fail
      refine (vvalid_as HV _ (by omega) hlo).mono ?_
      rintro z w10 ⟨rfl, hb10⟩
      have hG10 := hGd.on hb10
      have hx := hG10.ps.tell 0 0 0 0
      obtain ⟨⟨c0, c1, c2, c3, fz, lt, bl⟩, rd, q0, q1, q2, q3, pf, -, -, -, -⟩ := hG10
      clear p0 p1 p2 p3 hb10 hGd rd pf
      go_wp2
      clear c0 c1 c2 c3
      obtain ⟨c0, c1, c2, c3, bl⟩ := hx
      refine bodyPost_ret (v := .tuple #[.agg #[.int .i64 0, .int .u64 0, .int .u64 0, .int .i64 0], .int .i64 0, .int .i64 70]) (by simp [results, Tryz.results8, go_sem, c0, c1, c2, c3]) rfl ⟨?_, bl⟩
      rw [gtR_4 HX.out HA1.out HE1.out HY.out HA2.out HE2.out HL.out HA3.out HE3.out, if_neg (fun h => absurd (HV.out.symm.trans h.2) (by decide))]
      rfl
  · have HE0 := Lib.hid he
    have i9 : ((e3 : Int) == 0) = false := by rw [beq_eq_false_iff_ne]; omega
    have hx := hGd.ps.tell 0 0 0 0
    obtain ⟨⟨c0, c1, c2, c3, fz, lt, bl⟩, rd, q0, q1, q2, q3, pf, -, -, -, -⟩ := hGd
    clear he rd pf
    go_wp2
    clear c0 c1 c2 c3
    obtain ⟨c0, c1, c2, c3, bl⟩ := hx
    refine bodyPost_ret (v := .tuple #[.agg #[.int .i64 0, .int .u64 0, .int .u64 0, .int .i64 0], .int .i64 0, .int .i64 70]) (by simp [results, Tryz.results8, go_sem, c0, c1, c2, c3]) rfl ⟨?_, bl⟩
    rw [gtR_4 HX.out HA1.out HE1.out HY.out HA2.out HE2.out HL.out HA3.out HE3.out, if_neg (fun h => HE0.out h.1)]
    rfl

set_option maxRecDepth 20000 in
set_option maxHeartbeats 4000000 in
theorem get_other (bs : List UInt8) (ad : Option Addr) (c n m : Nat) (w : World) (hbs : bs.length = m) (hsh : Shows cel w w.heap.size ad bs)
    (hmin : min (n : Int) 18 = (m : Int)) (hmc : m ≤ c) (hm18 : m ≤ 18) (h4 : ∀ x, rdV bs 1 0 0 = x → x ≠ 4) :
    Calls Tryz.prog 8 #[.slice ad n c] w fun e w' => e = .returned (ofG (gtR bs)) ∧ Below w.heap.size w w' := by
  obtain ⟨x, hx⟩ : ∃ x, rdV bs 1 0 0 = x := ⟨_, rfl⟩
  obtain ⟨a1, ha1⟩ : ∃ x, rdA bs 1 0 0 = x := ⟨_, rfl⟩
  obtain ⟨e1, he1⟩ : ∃ x, rdE bs 1 0 0 = x := ⟨_, rfl⟩
  obtain ⟨y, hy⟩ : ∃ x, rdV bs 1 a1 e1 = x := ⟨_, rfl⟩
  obtain ⟨a2, ha2⟩ : ∃ x, rdA bs 1 a1 e1 = x := ⟨_, rfl⟩
  obtain ⟨e2, he2⟩ : ∃ x, rdE bs 1 a1 e1 = x := ⟨_, rfl⟩
  have la1 : a1 ≤ bs.length := by rw [← ha1]; exact rdA_le (by omega)
  have la2 : a2 ≤ bs.length := by rw [← ha2]; exact rdA_le la1
  have lx : x < 256 := by rw [← hx]; exact rdV_lt
  have ly : y < 256 := by rw [← hy]; exact rdV_lt
  have le1 : e1 ≤ 10 := by rw [← he1]; exact rdE_le (by omega)
  have le2 : e2 ≤ 10 := by rw [← he2]; exact rdE_le le1
  obtain ⟨hi, hhi'⟩ : ∃ x, rdV bs 8 a2 e2 = x := ⟨_, rfl⟩
  obtain ⟨a3, ha3⟩ : ∃ x, rdA bs 8 a2 e2 = x := ⟨_, rfl⟩
  obtain ⟨e3, he3⟩ : ∃ x, rdE bs 8 a2 e2 = x := ⟨_, rfl⟩
  obtain ⟨lo, hlo'⟩ : ∃ x, rdV bs 8 a3 e3 = x := ⟨_, rfl⟩
  obtain ⟨a4, ha4⟩ : ∃ x, rdA bs 8 a3 e3 = x := ⟨_, rfl⟩
  obtain ⟨e4, he4⟩ : ∃ x, rdE bs 8 a3 e3 = x := ⟨_, rfl⟩
  have hhi : hi < 18446744073709551616 := by rw [← hhi']; exact rdV_lt (n := 8)
  have hlo : lo < 18446744073709551616 := by rw [← hlo']; exact rdV_lt (n := 8)
  have la3 : a3 ≤ bs.length := by rw [← ha3]; exact rdA_le la2
  have la4 : a4 ≤ 18 := by have := rdA_le (bs := bs) (n := 8) (e := e3) la3; omega
  have le3 : e3 ≤ 10 := by rw [← he3]; exact rdE_le le2
  have le4 : e4 ≤ 10 := by rw [← he4]; exact rdE_le le3
  have HH := Lib.hid hhi'
  have HL := Lib.hid hlo'
  have HA3 := Lib.hid ha3
  have HE3 := Lib.hid he3
  have HA4 := Lib.hid ha4
  have HE4 := Lib.hid he4
  have LA3 := Lib.hid la3
  have hx4 : x ≠ 4 := h4 x hx
  clear hhi' hlo' ha3 he3 ha4 he4 h4 la3
  have HX := Lib.hid hx
  have HA1 := Lib.hid ha1
  have HE1 := Lib.hid he1
  have HY := Lib.hid hy
  have HA2 := Lib.hid ha2
  have HE2 := Lib.hid he2
  have HBS := Lib.hid hbs
  have hs := PS.new w 50
  have hm18' : bs.length ≤ 18 := by rw [hbs]; exact hm18
  have LB := Lib.hid hm18'
  have LA1 := Lib.hid la1
  have LA2 := Lib.hid la2
  clear hx ha1 he1 hy ha2 he2 hbs la1 la2 hm18'
  go_enter Tryz.func8, Tryz.ntmps8
  go_wp2_with fail
  refine (newreader_any bs ad m c _ HBS.out hm18 (hsh.on (one w _))).mono ?_
  rintro z w1 ⟨rfl, hR1, hb1, hz1⟩
  have hs1 := hs.on hb1
  obtain ⟨R, hRe⟩ : ∃ R, (w.alloc (.cells #[.int .i64 0, .int .u64 0, .int .u64 0, .int .i64 0] 50)).heap.size + 1 = R := ⟨_, rfl⟩
  obtain ⟨g, hge⟩ : ∃ g, (w.alloc (.cells #[.int .i64 0, .int .u64 0, .int .u64 0, .int .i64 0] 50)).heap.size = g := ⟨_, rfl⟩
  have q1 : w.heap.size < R := by rw [← hRe]; simp; omega
  have q2 : R < w1.heap.size := by omega
  have q3 : g < w1.heap.size := by omega
  rw [hRe] at hR1 ⊢
  rw [hge] at hR1
  clear hs hb1 hz1 hRe hge
  go_wp2_with fail
  refine (get8_any R g 0 0 bs _ hR1 LB.out (Nat.zero_le _) HX HA1 HE1).mono ?_
  rintro z w2 ⟨rfl, hR2, hB2⟩
  have hs2 := hs1.but hB2 q1
  go_wp2_with fail
  refine (get8_any R g a1 e1 bs _ hR2 LB.out LA1.out HY HA2 HE2).mono ?_
  rintro z w3 ⟨rfl, hR3, hB3⟩
  have hs3 := hs2.but hB3 q1
  have hG3 := GG.new hs3 hR3 q1 (by rw [hB3.size, hB2.size]; exact q2) (by rw [hB3.size, hB2.size]; exact q3) (x : Int) (y : Int)
  clear hs1 hs2 hR1 hR2 hB2 hB3 hs3 hR3 q2 q3
  obtain ⟨P, hPe⟩ : ∃ P, w3.heap.size = P := ⟨_, rfl⟩
  rw [hPe] at hG3
  have i4 : ((x : Int) == 4) = false := by rw [beq_eq_false_iff_ne]; omega
  have c40 := hG3.p0
  have c41 := hG3.pf
  go_wp2_with fail
  refine (get64_any R g a2 e2 bs _ hG3.rd LB.out LA2.out HH HA3 HE3).mono ?_
  rintro z w4 ⟨rfl, hR4, hB4⟩
  have hG4 := (hG3.but hB4 hR4)
  have hG5 := hG4.hi_ hi
  have c51 := hG4.p1
  have c53 := hG4.pf
  clear hG3 hB4 hR4 c40 c41
  go_wp2_with fail
  refine (get64_any R g a3 e3 bs _ hG5.rd LB.out LA3.out HL HA4 HE4).mono ?_
  rintro z w5 ⟨rfl, hR5, hB5⟩
  have hG6 := (hG5.but hB5 hR5)
  have hG7 := hG6.lo_ lo
  have c61 := hG6.p2
  have c63 := hG6.pf
  clear hG4 hG5 hB5 hR5 c51 c53
  go_wp2_with fail
  refine (err_any R g a4 e4 bs _ hG7.rd).mono ?_
  rintro z w9 ⟨rfl, nd, rfl⟩
  have hGd := hG7.drawn nd
  generalize World.drewN _ nd = w9 at hGd ⊢
  clear hG6 c61 c63
  by_cases he : e4 = 0
  · have HE0 := Lib.hid he
    have i9 : ((e4 : Int) == 0) = true := by rw [beq_iff_eq]; omega
    obtain ⟨ps, rd, p0, p1, p2, p3, pf, -, -, -, -⟩ := id hGd
    cases hv : vP ((x : Int)) hi lo (y : Int) with
    | true =>
      have HV := Lib.hid hv
      clear hv he rd ps pf
      go_wp2_with fail
      refine (vvalid_as HV _ hhi hlo).mono ?_
      rintro z w10 ⟨rfl, hb10⟩
      have hG10 := hGd.on hb10
      have hx := hG10.ps.tell ((x : Int)) (hi : Int) (lo : Int) (y : Int)
      obtain ⟨⟨c0, c1, c2, c3, fz, lt, bl⟩, rd, q0, q1, q2, q3, pf, -, -, -, -⟩ := hG10
      clear p0 p1 p2 p3 hb10 hGd rd pf
      go_wp2
      clear c0 c1 c2 c3
      obtain ⟨c0, c1, c2, c3, bl⟩ := hx
      refine bodyPost_ret (v := .tuple #[.agg #[.int .i64 ((x : Int)), .int .u64 (hi : Int), .int .u64 (lo : Int), .int .i64 (y : Int)], .int .i64 (a4 : Int), .int .i64 0]) (by simp [results, Tryz.results8, go_sem, c0, c1, c2, c3]) rfl ⟨?_, bl⟩
      rw [gtR_6 hx4 HX.out HA1.out HE1.out HY.out HA2.out HE2.out HH.out HA3.out HE3.out HL.out HA4.out HE4.out, if_pos ⟨HE0.out, HV.out⟩]
      rfl
    | false =>
      have HV := Lib.hid hv
      clear hv he rd ps pf
      go_wp2_with fail
      refine (vvalid_as HV _ hhi hlo).mono ?_
      rintro z w10 ⟨rfl, hb10⟩
      have hG10 := hGd.on hb10
      have hx := hG10.ps.tell 0 0 0 0
      obtain ⟨⟨c0, c1, c2, c3, fz, lt, bl⟩, rd, q0, q1, q2, q3, pf, -, -, -, -⟩ := hG10
      clear p0 p1 p2 p3 hb10 hGd rd pf
      go_wp2
      clear c0 c1 c2 c3
      obtain ⟨c0, c1, c2, c3, bl⟩ := hx
      refine bodyPost_ret (v := .tuple #[.agg #[.int .i64 0, .int .u64 0, .int .u64 0, .int .i64 0], .int .i64 0, .int .i64 70]) (by simp [results, Tryz.results8, go_sem, c0, c1, c2, c3]) rfl ⟨?_, bl⟩
      rw [gtR_6 hx4 HX.out HA1.out HE1.out HY.out HA2.out HE2.out HH.out HA3.out HE3.out HL.out HA4.out HE4.out, if_neg (fun h => absurd (HV.out.symm.trans h.2) (by decide))]
      rfl
  · have HE0 := Lib.hid he
    have i9 : ((e4 : Int) == 0) = false := by rw [beq_eq_false_iff_ne]; omega
    have hx := hGd.ps.tell 0 0 0 0
    obtain ⟨⟨c0, c1, c2, c3, fz, lt, bl⟩, rd, q0, q1, q2, q3, pf, -, -, -, -⟩ := hGd
    clear he rd pf
    go_wp2
    clear c0 c1 c2 c3
    obtain ⟨c0, c1, c2, c3, bl⟩ := hx
    refine bodyPost_ret (v := .tuple #[.agg #[.int .i64 0, .int .u64 0, .int .u64 0, .int .i64 0], .int .i64 0, .int .i64 70]) (by simp [results, Tryz.results8, go_sem, c0, c1, c2, c3]) rfl ⟨?_, bl⟩
    rw [gtR_6 hx4 HX.out HA1.out HE1.out HY.out HA2.out HE2.out HH.out HA3.out HE3.out HL.out HA4.out HE4.out, if_neg (fun h => HE0.out h.1)]
    rfl

theorem Shows.take {w : World} {B : Nat} {A : Option Addr} {l : List UInt8} (h : Shows cel w B A l) (k : Nat) : Shows cel w B A (l.take k) := fun hl => by
  obtain ⟨b, o, rfl, hb, hc⟩ := h (by rw [List.length_take] at hl; omega)
  refine ⟨b, o, rfl, hb, fun i x hi => ?_⟩
  rw [List.getElem?_take] at hi
  split at hi
  · exact hc i x hi
  · cases hi
theorem get_any (l : List UInt8) (ad : Option Addr) (c : Nat) (w : World) (hc : l.length ≤ c) (hsh : Shows cel w w.heap.size ad l) :
    Calls Tryz.prog 8 #[.slice ad l.length c] w fun e w' => e = .returned (ofG (gtP l)) ∧ Below w.heap.size w w' := by
  rw [← gtR_eq l]
  have hm : (l.take 18).length = min 18 l.length := List.length_take
  have hmin : min (l.length : Int) 18 = ((min 18 l.length : Nat) : Int) := by omega
  by_cases h : rdV (l.take 18) 1 0 0 = 4
  · exact get_four (l.take 18) ad c l.length (min 18 l.length) w hm (Shows.take hsh 18) hmin (by omega) (by omega) (fun x hx => by omega)
  · exact get_other (l.take 18) ad c l.length (min 18 l.length) w hm (Shows.take hsh 18) hmin (by omega) (by omega) (fun x hx => by omega)

end Go.Proofs.YtnodiejfhkjliaaGreatDoor.Pf
