/- Memory: a new book, a room of sixty-four bytes that is written over and over; an argument of prefixes. -/
import Derived.Test.YtnodiejfhkjliaaGreatDoorKeptJ
import Derived.Test.YtnodiejfhkjliaaGreatDoorRd
import Derived.Test.YtnodiejfhkjliaaGreatDoorRGet
namespace Go.Proofs.YtnodiejfhkjliaaGreatDoor.Kp
open Go.RowKit Go.Proofs.YtnodiejfhkjliaaGreatDoor.Wd Go.Proofs.YtnodiejfhkjliaaGreatDoor.Px Go.Proofs.YtnodiejfhkjliaaGreatDoor.By Go.Proofs.YtnodiejfhkjliaaGreatDoor.Pf

/-- a list of prefixes, read -/
def ShowsP (w : World) (A : Option Addr) (l : List (Int × Nat × Nat × Int)) : Prop :=
  0 < l.length → ∃ b o, A = some ⟨b, o, none⟩ ∧ b < w.heap.size ∧ ∀ (i : Nat) (q : Int × Nat × Nat × Int), l[i]? = some q → w.cell? ⟨b, o + i * 4, none⟩ = some (.int .i64 q.1) ∧ w.cell? ⟨b, o + i * 4 + 1, none⟩ = some (.int .u64 (q.2.1 : Int)) ∧ w.cell? ⟨b, o + i * 4 + 2, none⟩ = some (.int .u64 (q.2.2.1 : Int)) ∧ w.cell? ⟨b, o + i * 4 + 3, none⟩ = some (.int .i64 q.2.2.2)
theorem ShowsP.at_ {w W : World} {A : Option Addr} {l : List (Int × Nat × Nat × Int)} (h : ShowsP w A l) (hb : Below w.heap.size w W) {i : Nat} {q : Int × Nat × Nat × Int} (hq : l[i]? = some q) : ∃ b o, A = some ⟨b, o, none⟩ ∧ W.cell? ⟨b, o + i * 4, none⟩ = some (.int .i64 q.1) ∧ W.cell? ⟨b, o + i * 4 + 1, none⟩ = some (.int .u64 (q.2.1 : Int)) ∧ W.cell? ⟨b, o + i * 4 + 2, none⟩ = some (.int .u64 (q.2.2.1 : Int)) ∧ W.cell? ⟨b, o + i * 4 + 3, none⟩ = some (.int .i64 q.2.2.2) := by
  obtain ⟨b, o, rfl, hlt, hc⟩ := h (List.length_pos_of_mem (List.mem_of_getElem? hq))
  obtain ⟨h0, h1, h2, h3⟩ := hc i q hq
  have k : ∀ j, W.cell? ⟨b, j, none⟩ = w.cell? ⟨b, j, none⟩ := fun j => hb.cell (p := ⟨b, j, none⟩) hlt
  exact ⟨b, o, rfl, (k _).trans h0, (k _).trans h1, (k _).trans h2, (k _).trans h3⟩

theorem nn_all (o : Nat) (h1 : 5 ≤ o) (h2 : o < 53) : (#[.int .i64 0, .int .i64 0, .slice none 0 0, .slice none 0 0, .slice none 0 0, .slice none 0 0, .slice none 0 0, .slice none 0 0, .slice none 0 0, .slice none 0 0, .slice none 0 0, .slice none 0 0, .slice none 0 0, .slice none 0 0, .slice none 0 0, .slice none 0 0, .slice none 0 0, .slice none 0 0, .slice none 0 0, .slice none 0 0, .slice none 0 0, .slice none 0 0, .slice none 0 0, .slice none 0 0, .slice none 0 0, .slice none 0 0, .slice none 0 0, .slice none 0 0, .slice none 0 0, .slice none 0 0, .slice none 0 0, .slice none 0 0, .slice none 0 0, .slice none 0 0, .slice none 0 0, .slice none 0 0, .slice none 0 0, .slice none 0 0, .slice none 0 0, .slice none 0 0, .slice none 0 0, .slice none 0 0, .slice none 0 0, .slice none 0 0, .slice none 0 0, .slice none 0 0, .slice none 0 0, .slice none 0 0, .slice none 0 0, .slice none 0 0, .slice none 0 0, .slice none 0 0, .slice none 0 0] : Array Value)[o]? = some (.slice none 0 0) := by
  have h : o = 5 ∨ o = 6 ∨ o = 7 ∨ o = 8 ∨ o = 9 ∨ o = 10 ∨ o = 11 ∨ o = 12 ∨ o = 13 ∨ o = 14 ∨ o = 15 ∨ o = 16 ∨ o = 17 ∨ o = 18 ∨ o = 19 ∨ o = 20 ∨ o = 21 ∨ o = 22 ∨ o = 23 ∨ o = 24 ∨ o = 25 ∨ o = 26 ∨ o = 27 ∨ o = 28 ∨ o = 29 ∨ o = 30 ∨ o = 31 ∨ o = 32 ∨ o = 33 ∨ o = 34 ∨ o = 35 ∨ o = 36 ∨ o = 37 ∨ o = 38 ∨ o = 39 ∨ o = 40 ∨ o = 41 ∨ o = 42 ∨ o = 43 ∨ o = 44 ∨ o = 45 ∨ o = 46 ∨ o = 47 ∨ o = 48 ∨ o = 49 ∨ o = 50 ∨ o = 51 ∨ o = 52 := by omega
  rcases h with rfl | rfl | rfl | rfl | rfl | rfl | rfl | rfl | rfl | rfl | rfl | rfl | rfl | rfl | rfl | rfl | rfl | rfl | rfl | rfl | rfl | rfl | rfl | rfl | rfl | rfl | rfl | rfl | rfl | rfl | rfl | rfl | rfl | rfl | rfl | rfl | rfl | rfl | rfl | rfl | rfl | rfl | rfl | rfl | rfl | rfl | rfl | rfl <;> rfl
set_option maxRecDepth 20000 in
theorem bk_new (w : World) (t : TypeId) : Bk w.heap.size 0 (.slice none 0 0) (.slice none 0 0) (.slice none 0 0) (w.alloc (.cells #[.int .i64 0, .int .i64 0, .slice none 0 0, .slice none 0 0, .slice none 0 0, .slice none 0 0, .slice none 0 0, .slice none 0 0, .slice none 0 0, .slice none 0 0, .slice none 0 0, .slice none 0 0, .slice none 0 0, .slice none 0 0, .slice none 0 0, .slice none 0 0, .slice none 0 0, .slice none 0 0, .slice none 0 0, .slice none 0 0, .slice none 0 0, .slice none 0 0, .slice none 0 0, .slice none 0 0, .slice none 0 0, .slice none 0 0, .slice none 0 0, .slice none 0 0, .slice none 0 0, .slice none 0 0, .slice none 0 0, .slice none 0 0, .slice none 0 0, .slice none 0 0, .slice none 0 0, .slice none 0 0, .slice none 0 0, .slice none 0 0, .slice none 0 0, .slice none 0 0, .slice none 0 0, .slice none 0 0, .slice none 0 0, .slice none 0 0, .slice none 0 0, .slice none 0 0, .slice none 0 0, .slice none 0 0, .slice none 0 0, .slice none 0 0, .slice none 0 0, .slice none 0 0, .slice none 0 0] t)) := by
  have hc : ∀ o, (w.alloc (.cells #[.int .i64 0, .int .i64 0, .slice none 0 0, .slice none 0 0, .slice none 0 0, .slice none 0 0, .slice none 0 0, .slice none 0 0, .slice none 0 0, .slice none 0 0, .slice none 0 0, .slice none 0 0, .slice none 0 0, .slice none 0 0, .slice none 0 0, .slice none 0 0, .slice none 0 0, .slice none 0 0, .slice none 0 0, .slice none 0 0, .slice none 0 0, .slice none 0 0, .slice none 0 0, .slice none 0 0, .slice none 0 0, .slice none 0 0, .slice none 0 0, .slice none 0 0, .slice none 0 0, .slice none 0 0, .slice none 0 0, .slice none 0 0, .slice none 0 0, .slice none 0 0, .slice none 0 0, .slice none 0 0, .slice none 0 0, .slice none 0 0, .slice none 0 0, .slice none 0 0, .slice none 0 0, .slice none 0 0, .slice none 0 0, .slice none 0 0, .slice none 0 0, .slice none 0 0, .slice none 0 0, .slice none 0 0, .slice none 0 0, .slice none 0 0, .slice none 0 0, .slice none 0 0, .slice none 0 0] t)).cell? ⟨w.heap.size, o, none⟩ = (#[.int .i64 0, .int .i64 0, .slice none 0 0, .slice none 0 0, .slice none 0 0, .slice none 0 0, .slice none 0 0, .slice none 0 0, .slice none 0 0, .slice none 0 0, .slice none 0 0, .slice none 0 0, .slice none 0 0, .slice none 0 0, .slice none 0 0, .slice none 0 0, .slice none 0 0, .slice none 0 0, .slice none 0 0, .slice none 0 0, .slice none 0 0, .slice none 0 0, .slice none 0 0, .slice none 0 0, .slice none 0 0, .slice none 0 0, .slice none 0 0, .slice none 0 0, .slice none 0 0, .slice none 0 0, .slice none 0 0, .slice none 0 0, .slice none 0 0, .slice none 0 0, .slice none 0 0, .slice none 0 0, .slice none 0 0, .slice none 0 0, .slice none 0 0, .slice none 0 0, .slice none 0 0, .slice none 0 0, .slice none 0 0, .slice none 0 0, .slice none 0 0, .slice none 0 0, .slice none 0 0, .slice none 0 0, .slice none 0 0, .slice none 0 0, .slice none 0 0, .slice none 0 0, .slice none 0 0] : Array Value)[o]? := fun o => cell_of_row _ w.heap.size o _ _ _ (heap_alloc_new w _)
  exact ⟨(hc 0).trans rfl, (hc 1).trans rfl, (hc 2).trans rfl, (hc 3).trans rfl, (hc 4).trans rfl, fun o h1 h2 => (hc o).trans (nn_all o h1 h2), fun o => by go_simp⟩
theorem bka_new {W : World} {K : Nat} (h : Bk K 0 (.slice none 0 0) (.slice none 0 0) (.slice none 0 0) W) (hK : K + 2 ≤ W.heap.size) : BkA (K + 2) K [] [] [] W :=
  ⟨⟨_, _, ⟨h, World.ownsRow_nil _ _ _ _, World.ownsRow_nil _ _ _ _, World.ownsRow_nil _ _ _ _, fun g hg => by simp [Value.ownBlock] at hg, fun g hg => by simp [Value.ownBlock] at hg, fun g hg => by simp [Value.ownBlock] at hg, by omega, hK⟩⟩, Rws.nil _ _, Rws.nil _ _, Apt.nil⟩
/-- a step on another block below the book's rows -/
theorem BkA.but {B K R : Nat} {vs us : List Value} {cs : List (List UInt8)} {W W' : World} (h : BkA B K vs us cs W) (hb : But R W W') (hR : R < B) (hRK : R ≠ K) : BkA B K vs us cs W' := by
  obtain ⟨⟨v0, v1, hc⟩, rv, ru, ap⟩ := h
  exact ⟨⟨v0, v1, hc.move (by rw [hb.size]; exact Nat.le_refl _) (hb.blk K (Ne.symm hRK)) fun g _ hg _ => hb.blk g (by omega)⟩, rv.move fun g hg _ => hb.blk g (by omega), ru.move fun g hg _ => hb.blk g (by omega), ap⟩

/-- the room: its block, what stands in it first -/
def Room (R : Nat) (xs : List Value) (W : World) : Prop := ∃ cur : Array Value, W.heap[R]? = some (.cells cur 5 (0, 0)) ∧ cur.size = 64 ∧ cur.toList.take xs.length = xs
theorem Room.own {R : Nat} {xs : List Value} {W : World} (h : Room R xs W) (hx : xs.length ≤ 64) : W.ownsRow R 5 1 (.slice (some ⟨R, 0, none⟩) xs.length 64) xs.length xs := by
  obtain ⟨cur, h1, h2, h3⟩ := h
  exact ⟨by omega, .inr ⟨R, 64, cur, rfl, Nat.le_refl _, h1, hx, by decide, by omega, by rw [Nat.mul_one]; exact h3⟩⟩
theorem Room.none_ {R : Nat} {xs : List Value} {W : World} (h : Room R xs W) : Room R [] W := by
  obtain ⟨cur, h1, h2, -⟩ := h
  exact ⟨cur, h1, h2, rfl⟩
theorem Room.kept {R : Nat} {xs : List Value} {W W' : World} (h : Room R xs W) (hb : W'.heap[R]? = W.heap[R]?) : Room R xs W' := by
  obtain ⟨cur, h1, h2, h3⟩ := h
  exact ⟨cur, hb.trans h1, h2, h3⟩
theorem Room.lt {R : Nat} {xs : List Value} {W : World} (h : Room R xs W) : R < W.heap.size := by
  obtain ⟨cur, h1, -⟩ := h
  rcases Nat.lt_or_ge R W.heap.size with hl | hl
  · exact hl
  · rw [Array.getElem?_eq_none hl] at h1; cases h1
set_option maxRecDepth 20000 in
/-- append into the room -/
theorem wpList_append_fit {ops : Array Oper} {rest : List Oper} {o : Oper} {a : Act} {Q : Exit → Act → World → Prop} {W : World} (R B : Nat) (hgd : o.guard = none) (s x : Operand)
    (ho : o.op = .call { callee := .builtin .append, args := #[s, x], argTypes := #[44, 44] }) (xs : List Value) (ys : List UInt8) (A : Option Addr) (k m c : Nat) (hs : a.eval s = .slice (some ⟨R, 0, none⟩) k 64) (hx : a.eval x = .slice A m c) (hk : xs.length = k) (hm : ys.length = m)
    (hR : Room R xs W) (hY : Shows cel W B A ys) (hl : k + m ≤ 64)
    (h : ∀ w1, Room R (xs ++ ys.map cel) w1 → But R W w1 → wpList Tryz.prog ops Q rest (a.put o.dst (.slice (some ⟨R, 0, none⟩) (k + m) 64)) w1) :
    wpList Tryz.prog ops Q (o :: rest) a W := by
  obtain ⟨inf, hi0, hz0, hz1, hz2⟩ := info_parts Tryz.infoB
  cases A with
  | none =>
    have h0 : m = 0 := by
      rcases Nat.eq_zero_or_pos m with h0 | h0
      · exact h0
      · obtain ⟨b, p, e, -⟩ := hY (by omega)
        cases e
    subst h0
    obtain rfl : ys = [] := List.eq_nil_of_length_eq_zero hm
    have hrun : (Builtin.append_ #[44, 44] o.type #[.slice (some ⟨R, 0, none⟩) k 64, .slice none 0 c]).run Tryz.prog W = .ok (.slice (some ⟨R, 0, none⟩) k 64) W := by
      have hk64 : k ≤ 64 := by omega
      simp [Builtin.append_, run_underlying Tryz.underlying44, sizeOf, typeInfo, hi0, Builtin.lenOf, Builtin.firstCells, hk64, storeCells]
    refine wpList_plain hgd fun K hK => ?_
    unfold Oper.wp execOp
    simp only [ho, resolve, invoke, builtin, Sem.run_bind, Sem.run_pure, Result.andThen_ok, List.map_toArray, List.map_cons, List.map_nil, hs, hx, hrun]
    exact hK _ _ (h W (by simpa using hR) (But.refl _ _))
  | some ad =>
    obtain ⟨cur, h1, h2, h3⟩ := hR
    have hnews : ∀ j u, (ys.map cel)[j]? = some u → W.cell? (ad.add j) = some u := by
      intro j u hu
      rw [List.getElem?_map] at hu
      obtain ⟨z, hz, rfl⟩ := Option.map_eq_some_iff.1 hu
      obtain ⟨b, p, e, -, hc⟩ := hY (List.length_pos_of_mem (List.mem_of_getElem? hz))
      injection e with e
      subst e
      have e : (⟨b, p, none⟩ : Addr).add j = ⟨b, p + j, none⟩ := by unfold Addr.add; split <;> simp_all
      rw [e]
      exact hc j z hz
    have hr := run_append_room (P := Tryz.prog) W 44 o.type 5 inf Tryz.underlying44 hi0 R k 64 cur h1 ad m c (ys.map cel) (by rw [hz1, List.length_map]; omega) hnews (cels_one ys) hl (by rw [hz1, List.length_map]; omega)
    rw [hz1, Nat.mul_one, List.length_map, hm] at hr
    rw [hk] at h3
    refine wpList_plain hgd fun K hK => ?_
    unfold Oper.wp execOp
    simp only [ho, resolve, invoke, builtin, Sem.run_bind, Sem.run_pure, Result.andThen_ok, List.map_toArray, List.map_cons, List.map_nil, hs, hx, hr]
    refine hK _ _ (h _ ⟨_, setRow_heap W R cur _ _ _ h1, ?_, ?_⟩ ⟨fun i hi => setRow_other W R i _ hi, by simp [World.setRow], fun b w0 hB hb => below_setRow hb hB _⟩)
    · simp only [List.size_toArray, List.length_append, List.length_take, List.length_drop, Array.length_toList, List.length_map]
      omega
    · show (cur.toList.take k ++ ys.map cel ++ cur.toList.drop (k + m)).take (xs ++ ys.map cel).length = _
      rw [h3, List.take_left]

end Go.Proofs.YtnodiejfhkjliaaGreatDoor.Kp
