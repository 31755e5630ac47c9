/- The walk of the statement on memory: stamps' bytes are new memory, each time. -/
import Derived.Test.YtdpcmokemjfelaaGreatDoorKeptJ
import Derived.Test.YtdpcmokemjfelaaGreatDoorPlace
namespace Go.Proofs.YtdpcmokemjfelaaGreatDoor.Kp
open Go.RowKit Go.Proofs.YtdpcmokemjfelaaGreatDoor.Wd Go.Proofs.YtdpcmokemjfelaaGreatDoor.Px Go.Proofs.YtdpcmokemjfelaaGreatDoor.By Go.Proofs.YtdpcmokemjfelaaGreatDoor.Pf Go.Proofs.YtdpcmokemjfelaaGreatDoor.En Go.Proofs.YtdpcmokemjfelaaGreatDoor.Pl
open Go.Proofs.YtdpcmokemjfelaaGreatDoor.St (lb lb_yes lb_no lb_len lb_le ShowsS known_any put_yes put_no rput_yes rput_no)

theorem nn_all (o : Nat) (h1 : 5 ≤ o) (h2 : o < 53) : (#[.int .i64 0, .int .i64 0, .slice none 0 0, .slice none 0 0, .slice none 0 0, .slice none 0 0, .slice none 0 0, .slice none 0 0, .slice none 0 0, .slice none 0 0, .slice none 0 0, .slice none 0 0, .slice none 0 0, .slice none 0 0, .slice none 0 0, .slice none 0 0, .slice none 0 0, .slice none 0 0, .slice none 0 0, .slice none 0 0, .slice none 0 0, .slice none 0 0, .slice none 0 0, .slice none 0 0, .slice none 0 0, .slice none 0 0, .slice none 0 0, .slice none 0 0, .slice none 0 0, .slice none 0 0, .slice none 0 0, .slice none 0 0, .slice none 0 0, .slice none 0 0, .slice none 0 0, .slice none 0 0, .slice none 0 0, .slice none 0 0, .slice none 0 0, .slice none 0 0, .slice none 0 0, .slice none 0 0, .slice none 0 0, .slice none 0 0, .slice none 0 0, .slice none 0 0, .slice none 0 0, .slice none 0 0, .slice none 0 0, .slice none 0 0, .slice none 0 0, .slice none 0 0, .slice none 0 0] : Array Value)[o]? = some (.slice none 0 0) := by
  have h : o = 5 ∨ o = 6 ∨ o = 7 ∨ o = 8 ∨ o = 9 ∨ o = 10 ∨ o = 11 ∨ o = 12 ∨ o = 13 ∨ o = 14 ∨ o = 15 ∨ o = 16 ∨ o = 17 ∨ o = 18 ∨ o = 19 ∨ o = 20 ∨ o = 21 ∨ o = 22 ∨ o = 23 ∨ o = 24 ∨ o = 25 ∨ o = 26 ∨ o = 27 ∨ o = 28 ∨ o = 29 ∨ o = 30 ∨ o = 31 ∨ o = 32 ∨ o = 33 ∨ o = 34 ∨ o = 35 ∨ o = 36 ∨ o = 37 ∨ o = 38 ∨ o = 39 ∨ o = 40 ∨ o = 41 ∨ o = 42 ∨ o = 43 ∨ o = 44 ∨ o = 45 ∨ o = 46 ∨ o = 47 ∨ o = 48 ∨ o = 49 ∨ o = 50 ∨ o = 51 ∨ o = 52 := by omega
  rcases h with rfl | rfl | rfl | rfl | rfl | rfl | rfl | rfl | rfl | rfl | rfl | rfl | rfl | rfl | rfl | rfl | rfl | rfl | rfl | rfl | rfl | rfl | rfl | rfl | rfl | rfl | rfl | rfl | rfl | rfl | rfl | rfl | rfl | rfl | rfl | rfl | rfl | rfl | rfl | rfl | rfl | rfl | rfl | rfl | rfl | rfl | rfl | rfl <;> rfl
set_option maxRecDepth 20000 in
theorem bk_new (w : World) (t : TypeId) : Bk w.heap.size 0 (.slice none 0 0) (.slice none 0 0) (.slice none 0 0) (w.alloc (.cells #[.int .i64 0, .int .i64 0, .slice none 0 0, .slice none 0 0, .slice none 0 0, .slice none 0 0, .slice none 0 0, .slice none 0 0, .slice none 0 0, .slice none 0 0, .slice none 0 0, .slice none 0 0, .slice none 0 0, .slice none 0 0, .slice none 0 0, .slice none 0 0, .slice none 0 0, .slice none 0 0, .slice none 0 0, .slice none 0 0, .slice none 0 0, .slice none 0 0, .slice none 0 0, .slice none 0 0, .slice none 0 0, .slice none 0 0, .slice none 0 0, .slice none 0 0, .slice none 0 0, .slice none 0 0, .slice none 0 0, .slice none 0 0, .slice none 0 0, .slice none 0 0, .slice none 0 0, .slice none 0 0, .slice none 0 0, .slice none 0 0, .slice none 0 0, .slice none 0 0, .slice none 0 0, .slice none 0 0, .slice none 0 0, .slice none 0 0, .slice none 0 0, .slice none 0 0, .slice none 0 0, .slice none 0 0, .slice none 0 0, .slice none 0 0, .slice none 0 0, .slice none 0 0, .slice none 0 0] t)) := by
  have hc : ∀ o, (w.alloc (.cells #[.int .i64 0, .int .i64 0, .slice none 0 0, .slice none 0 0, .slice none 0 0, .slice none 0 0, .slice none 0 0, .slice none 0 0, .slice none 0 0, .slice none 0 0, .slice none 0 0, .slice none 0 0, .slice none 0 0, .slice none 0 0, .slice none 0 0, .slice none 0 0, .slice none 0 0, .slice none 0 0, .slice none 0 0, .slice none 0 0, .slice none 0 0, .slice none 0 0, .slice none 0 0, .slice none 0 0, .slice none 0 0, .slice none 0 0, .slice none 0 0, .slice none 0 0, .slice none 0 0, .slice none 0 0, .slice none 0 0, .slice none 0 0, .slice none 0 0, .slice none 0 0, .slice none 0 0, .slice none 0 0, .slice none 0 0, .slice none 0 0, .slice none 0 0, .slice none 0 0, .slice none 0 0, .slice none 0 0, .slice none 0 0, .slice none 0 0, .slice none 0 0, .slice none 0 0, .slice none 0 0, .slice none 0 0, .slice none 0 0, .slice none 0 0, .slice none 0 0, .slice none 0 0, .slice none 0 0] t)).cell? ⟨w.heap.size, o, none⟩ = (#[.int .i64 0, .int .i64 0, .slice none 0 0, .slice none 0 0, .slice none 0 0, .slice none 0 0, .slice none 0 0, .slice none 0 0, .slice none 0 0, .slice none 0 0, .slice none 0 0, .slice none 0 0, .slice none 0 0, .slice none 0 0, .slice none 0 0, .slice none 0 0, .slice none 0 0, .slice none 0 0, .slice none 0 0, .slice none 0 0, .slice none 0 0, .slice none 0 0, .slice none 0 0, .slice none 0 0, .slice none 0 0, .slice none 0 0, .slice none 0 0, .slice none 0 0, .slice none 0 0, .slice none 0 0, .slice none 0 0, .slice none 0 0, .slice none 0 0, .slice none 0 0, .slice none 0 0, .slice none 0 0, .slice none 0 0, .slice none 0 0, .slice none 0 0, .slice none 0 0, .slice none 0 0, .slice none 0 0, .slice none 0 0, .slice none 0 0, .slice none 0 0, .slice none 0 0, .slice none 0 0, .slice none 0 0, .slice none 0 0, .slice none 0 0, .slice none 0 0, .slice none 0 0, .slice none 0 0] : Array Value)[o]? := fun o => cell_of_row _ w.heap.size o _ _ _ (heap_alloc_new w _)
  exact ⟨(hc 0).trans rfl, (hc 1).trans rfl, (hc 2).trans rfl, (hc 3).trans rfl, (hc 4).trans rfl, fun o h1 h2 => (hc o).trans (nn_all o h1 h2), fun o => by go_simp⟩
theorem bka_new {W : World} {K : Nat} (h : Bk K 0 (.slice none 0 0) (.slice none 0 0) (.slice none 0 0) W) (hK : K + 2 ≤ W.heap.size) : BkA (K + 2) K [] [] [] W :=
  ⟨⟨_, _, ⟨h, World.ownsRow_nil _ _ _ _, World.ownsRow_nil _ _ _ _, World.ownsRow_nil _ _ _ _, fun g hg => by simp [Value.ownBlock] at hg, fun g hg => by simp [Value.ownBlock] at hg, fun g hg => by simp [Value.ownBlock] at hg, by omega, hK⟩⟩, Rws.nil _ _, Rws.nil _ _, Apt.nil⟩
theorem shows_o {base n k : Nat} {A : Option Addr} {X : List UInt8} {W : World} (hn : Hid (X.length = n)) (h : W.ownsRow base 5 1 (.slice A n k) n (X.map cel)) : Shows cel W W.heap.size A X := by
  have hn' := hn.out
  subst hn'
  exact Shows.of_own (base := base) (e := 5) h
/-- all blocks of the rows lie below -/
def Tp (vs : List Value) (H : Nat) : Prop := ∀ (i : Nat) (u : Value) (g : Nat), vs[i]? = some u → u.ownBlock = some g → g < H
theorem Tp.of {B : Nat} {vs : List Value} {cs : List (List UInt8)} {W : World} (h : Rws B vs cs W) : Tp vs W.heap.size := fun i u g hu hg => by
  obtain ⟨c, hc⟩ : ∃ c, cs[i]? = some c := ⟨_, List.getElem?_eq_getElem (by rw [← h.len]; exact (List.getElem?_eq_some_iff.1 hu).1)⟩
  exact ((h.own i u c hu hc).lt g hg).2
theorem Tp.snoc {vs : List Value} {H H' : Nat} (h : Tp vs H) (hH : H ≤ H') {v : Value} (hv : ∀ g, v.ownBlock = some g → g < H') : Tp (vs ++ [v]) H' := fun i u g hu hg => by
  rcases get_snoc hu with ⟨h1, -⟩ | ⟨-, rfl⟩
  · exact Nat.lt_of_lt_of_le (h i u g h1 hg) hH
  · exact hv g hg
theorem Tp.fresh {vs : List Value} {H base n : Nat} {e : TypeId} {v : Value} {xs : List Value} {W : World} (h : Tp vs H) (ho : W.ownsRow base e 1 v n xs) (hb : H ≤ base) : ∀ (i : Nat) (u : Value) (g : Nat), vs[i]? = some u → u.ownBlock = some g → v.ownBlock ≠ some g := fun i u g hu hg e => by
  have h1 := h i u g hu hg
  have h2 := (ho.lt g e).1
  omega

/-- the zero book's cells -/
def bkz : Array Value := #[.int .i64 0, .int .i64 0, .slice none 0 0, .slice none 0 0, .slice none 0 0, .slice none 0 0, .slice none 0 0, .slice none 0 0, .slice none 0 0, .slice none 0 0, .slice none 0 0, .slice none 0 0, .slice none 0 0, .slice none 0 0, .slice none 0 0, .slice none 0 0, .slice none 0 0, .slice none 0 0, .slice none 0 0, .slice none 0 0, .slice none 0 0, .slice none 0 0, .slice none 0 0, .slice none 0 0, .slice none 0 0, .slice none 0 0, .slice none 0 0, .slice none 0 0, .slice none 0 0, .slice none 0 0, .slice none 0 0, .slice none 0 0, .slice none 0 0, .slice none 0 0, .slice none 0 0, .slice none 0 0, .slice none 0 0, .slice none 0 0, .slice none 0 0, .slice none 0 0, .slice none 0 0, .slice none 0 0, .slice none 0 0, .slice none 0 0, .slice none 0 0, .slice none 0 0, .slice none 0 0, .slice none 0 0, .slice none 0 0, .slice none 0 0, .slice none 0 0, .slice none 0 0, .slice none 0 0]
set_option maxRecDepth 20000 in
theorem bd_book (w : World) : (Instr.build 43 #[]).run Tryz.prog w = .ok (.agg bkz) w := run_build w _ #[] _ (by kernel_rfl)
theorem wpList_bk {ops : Array Oper} {rest : List Oper} {o : Oper} {a : Act} {Q : Exit → Act → World → Prop} {W : World} (hgd : o.guard = none) (ho : o.op = .build 43 #[])
    (h : wpList Tryz.prog ops Q rest (a.put o.dst (.agg bkz)) W) : wpList Tryz.prog ops Q (o :: rest) a W := by
  refine wpList_plain hgd fun K hK => ?_
  unfold Oper.wp execOp
  simp only [ho, Sem.run_bind, List.map_toArray, List.map_nil, bd_book, Result.andThen_ok]
  exact hK _ _ h
theorem bk_newz (w : World) (t : TypeId) : Bk w.heap.size 0 (.slice none 0 0) (.slice none 0 0) (.slice none 0 0) (w.alloc (.cells bkz t)) := bk_new w t

theorem own_low {w : World} {base base' : Nat} {e : TypeId} {n : Nat} {v : Value} {xs : List Value} (h : w.ownsRow base e 1 v n xs) (hb : base' ≤ base) : w.ownsRow base' e 1 v n xs := by
  obtain ⟨h1, h2⟩ := h
  refine ⟨h1, ?_⟩
  rcases h2 with h2 | ⟨g, cap, cur, r1, r2, r3, r4⟩
  · exact .inl h2
  · exact .inr ⟨g, cap, cur, r1, Nat.le_trans hb r2, r3, r4⟩
theorem keep_n {l : List UInt8} {n B K base k : Nat} {vs us : List Value} {cs : List (List UInt8)} {A : Option Addr} {w : World} (hn : Hid (l.length = n)) (h : BkA B K vs us cs w) (hv : w.ownsRow base 5 1 (.slice A n k) n (l.map cel)) (hb : B ≤ base) (tp : Tp vs base) (hl : n ≤ 18) (hvl : vs.length ≤ 400) :
    Calls Tryz.prog 8 #[.pointer (some ⟨K, 0, none⟩), .slice A n k] w fun e w' => e = .returned (.tuple #[]) ∧ ∃ u, BkA B K (vs ++ [.slice A n k]) (us ++ [u]) (cs ++ [l]) w' ∧ FrU K w w' := by
  have hn' := hn.out
  subst hn'
  exact keep_any B K vs us cs _ l w h (own_low hv hb) (tp.fresh hv (Nat.le_refl _)) (by omega) (by omega)

theorem put_o {s n : Int} {X : List UInt8} {m : Nat} (h : Hid (lb s n = X)) (hn : Hid (X.length = m)) (w : World) (h0 : s ≤ 9223372036854775807) :
    Calls Tryz.prog 5 #[.agg #[.int .i64 s, .int .i64 n]] w fun e w' => ∃ A k, e = .returned (.slice A m k) ∧ w'.ownsRow w.heap.size 5 1 (.slice A m k) m (X.map cel) ∧ Below w.heap.size w w' := by
  have h := h.out
  have hn := hn.out
  subst h hn
  cases hv : vld s n with
  | true =>
    have hx := (vld_iff s n).1 hv
    refine (put_yes s n w (by omega) h0 (by omega) (by omega)).mono ?_
    rintro e w' ⟨v, rfl, hown, hb⟩
    have hl := lb_len hv
    rw [← lb_yes hv] at hown
    rw [show (12 : Nat) = (lb s n).length from hl.symm] at hown
    obtain ⟨A, c, rfl⟩ := own_slice hown
    exact ⟨A, c, rfl, hown, hb⟩
  | false =>
    refine (put_no s n w h0 hv).mono ?_
    rintro e w' ⟨rfl, hb⟩
    rw [lb_no hv]
    exact ⟨none, 0, rfl, World.ownsRow_nil _ _ _ _, hb⟩
theorem rput_o {s n : Int} {X : List UInt8} {m : Nat} (h : Hid (lb s n = X)) (hn : Hid (X.length = m)) (w : World) (h0 : s ≤ 9223372036854775807) :
    Calls Tryz.prog 7 #[.agg #[.int .i64 s, .int .i64 n]] w fun e w' => ∃ A k, e = .returned (.slice A m k) ∧ w'.ownsRow w.heap.size 5 1 (.slice A m k) m (X.map cel) ∧ Below w.heap.size w w' := by
  have h := h.out
  have hn := hn.out
  subst h hn
  cases hv : vld s n with
  | true =>
    have hx := (vld_iff s n).1 hv
    refine (rput_yes s n w (by omega) h0 (by omega) (by omega)).mono ?_
    rintro e w' ⟨v, rfl, hown, hb⟩
    have hl := lb_len hv
    rw [← lb_yes hv] at hown
    rw [show (12 : Nat) = (lb s n).length from hl.symm] at hown
    obtain ⟨A, c, rfl⟩ := own_slice hown
    exact ⟨A, c, rfl, hown, hb⟩
  | false =>
    refine (rput_no s n w hv).mono ?_
    rintro e w' ⟨rfl, hb⟩
    rw [lb_no hv]
    exact ⟨none, 0, rfl, World.ownsRow_nil _ _ _ _, hb⟩
theorem stamps_at {w W : World} {b0 o0 i : Nat} {l : List (Int × Int)} {s n : Int} (h : ShowsS w (some ⟨b0, o0, none⟩) l) (hb : Below w.heap.size w W) (hq : l[i]? = some (s, n)) :
    W.cell? ⟨b0, o0 + i * 2, none⟩ = some (.int .i64 s) ∧ W.cell? ⟨b0, o0 + i * 2 + 1, none⟩ = some (.int .i64 n) := by
  obtain ⟨b1, o1, e, hlt, hc⟩ := h (List.length_pos_of_mem (List.mem_of_getElem? hq))
  injection e with e
  injection e with e1 e2 _
  subst e1 e2
  obtain ⟨h0, h1⟩ := hc i _ hq
  exact ⟨(hb.cell (p := ⟨b0, o0 + i * 2, none⟩) hlt).trans h0, (hb.cell (p := ⟨b0, o0 + i * 2 + 1, none⟩) hlt).trans h1⟩

theorem bka_new' {W : World} {K : Nat} (h : Bk K 0 (.slice none 0 0) (.slice none 0 0) (.slice none 0 0) W) (hK : K + 1 ≤ W.heap.size) : BkA (K + 1) K [] [] [] W :=
  ⟨⟨_, _, ⟨h, World.ownsRow_nil _ _ _ _, World.ownsRow_nil _ _ _ _, World.ownsRow_nil _ _ _ _, fun g hg => by simp [Value.ownBlock] at hg, fun g hg => by simp [Value.ownBlock] at hg, fun g hg => by simp [Value.ownBlock] at hg, by omega, hK⟩⟩, Rws.nil _ _, Rws.nil _ _, Apt.nil⟩
theorem BkA.kw1 {B K : Nat} {vs us : List Value} {cs : List (List UInt8)} {W : World} (h : BkA B K vs us cs W) : B ≤ W.heap.size := by
  obtain ⟨⟨v0, v1, hco⟩, -, -, -⟩ := h; exact hco.bw
/-- the statement's loop between two rounds -/
structure OwS (w : World) (K q : Nat) (W : World) : Prop where
  ex : ∃ vs us cs, BkA (K + 1) K vs us cs W ∧ vs.length = q ∧ ∀ c ∈ cs, c.length ≤ 12
  bl : Below w.heap.size w W
  kw : w.heap.size ≤ K

set_option maxRecDepth 20000 in
set_option maxHeartbeats 16000000 in
theorem sown_loop (l : List (Int × Int)) (A : Option Addr) (c n : Nat) (w : World) (hE : Env w) (HL : Hid (l.length = n)) (hs : ShowsS w A l) (hq : ∀ q ∈ l, q.1 ≤ 9223372036854775807) :
    Calls Tryz.prog 3 #[.slice A n c] w fun e w' => e = .returned (.bool true) ∧ Below w.heap.size w w' := by
  go_enter Tryz.func3, Tryz.ntmps3
  go_wp2_with fail
  refine (known_any w hE).mono ?_
  rintro e w1 ⟨rfl, hb1⟩
  have hE1 := hE.on hb1
  have bk0 := bk_newz w1 43
  have ba1 := bka_new' bk0 (by simp)
  have ow1 : OwS w w1.heap.size 0 (w1.alloc (.cells bkz 43)) := ⟨⟨_, _, _, ba1, rfl, fun c hc => by simp at hc⟩, hb1.alloc hb1.size _, hb1.size⟩
  clear bk0 ba1
  go_wp2_with (refine wpList_bk rfl rfl ?_)
  generalize w1.alloc (.cells bkz 43) = W0 at ow1 ⊢
  generalize w1.heap.size = K at ow1 ⊢
  clear hb1 hE1
  go_loopw [4] (fun i wr => ∃ q : Nat, q ≤ n ∧ q ≤ 60 ∧ i = .int .i64 (q : Int) ∧ Hid (OwS w K (2 * q) wr)) (fun i _ => n - (intOf i).toNat)
  case atStart => exact ⟨0, Nat.zero_le _, Nat.zero_le _, rfl, Lib.hid ow1⟩
  case round =>
    clear ow1
    obtain ⟨q, hqn, hq60, rfl, HO⟩ := hrel
    by_cases hlt : q < n ∧ q < 60
    · have i1 : (q : Int) < (n : Int) := by omega
      have i2 : (q : Int) < 60 := by omega
      obtain ⟨x, hx⟩ : ∃ x, l[q]? = some x := ⟨_, List.getElem?_eq_getElem (by rw [HL.out]; exact hlt.1)⟩
      obtain ⟨s, m⟩ := x
      have hs9 : s ≤ 9223372036854775807 := hq _ (List.mem_of_getElem? hx)
      obtain ⟨X, hX⟩ : ∃ X, lb s m = X := ⟨_, rfl⟩
      obtain ⟨nx, hnx⟩ : ∃ k, X.length = k := ⟨_, rfl⟩
      have hx12 : nx ≤ 12 := by rw [← hnx, ← hX]; exact lb_le _ _
      have HX := Lib.hid hX
      have HNX := Lib.hid hnx
      have HQ := Lib.hid hx
      obtain ⟨b0, o0, hA, -⟩ := hs (List.length_pos_of_mem (List.mem_of_getElem? hx))
      subst hA
      clear hX hnx hx
      go_wp2
      go_loopw [5] (fun j wr => ∃ p : Nat, p ≤ 2 ∧ j = .int .i64 (p : Int) ∧ Hid (OwS w K (2 * q + p) wr)) (fun j _ => 2 - (intOf j).toNat)
      case atStart => exact ⟨0, by omega, rfl, HO⟩
      case round =>
        clear HO
        obtain ⟨p, hp2, rfl, HO⟩ := hrel
        by_cases hpt : p < 2
        · have i3 : (p : Int) < 2 := by omega
          obtain ⟨⟨vs, us, cs, ba0, hvl, hcl⟩, bl0, hKw⟩ := HO.out
          have tp0 := Tp.of ba0.rv
          obtain ⟨e0, e1⟩ := stamps_at hs bl0 HQ.out
          clear HO
          go_wp2_with fail
          refine (put_o HX HNX wr hs9).mono ?_
          rintro e wa ⟨Aa, ka, rfl, oa1, h1⟩
          have ba1 := ba0.on h1
          have bl1 := bl0.trans (h1.mono bl0.size)
          have s1 : wr.heap.size ≤ wa.heap.size := h1.size
          clear e0 e1
          obtain ⟨e0, e1⟩ := stamps_at hs bl1 HQ.out
          have kb := ba0.kw1
          clear ba0 bl0
          go_wp2_with fail
          refine (rput_o HX HNX wa hs9).mono ?_
          rintro e wb ⟨Ab, kb', rfl, ob2, h2⟩
          have ba2 := ba1.on h2
          have bl2 := bl1.trans (h2.mono bl1.size)
          have oa2 := own_on oa1 h2
          clear ba1 bl1 oa1 e0 e1
          have sha := shows_o HNX oa2
          have shb := shows_o HNX ob2
          go_wp2_with fail
          refine (same_m HNX (by omega) Aa Ab ka kb' wb sha shb).mono ?_
          rintro e wc ⟨rfl, h3⟩
          have ba3 := ba2.on h3
          have bl3 := bl2.trans (h3.mono bl2.size)
          have oa3 := own_on oa2 h3
          clear ba2 bl2 oa2 ob2 sha shb
          go_wp2_with fail
          refine (keep_n HNX ba3 oa3 (by omega) tp0 (by omega) (by omega)).mono ?_
          rintro e wd ⟨rfl, u0, ba4, f4⟩
          have bl4 := f4.bl _ w hKw bl3
          clear ba3 oa3 f4 bl3
          go_wp2
          go_roundw
          case rel => exact ⟨p + 1, by omega, by go_num, Lib.hid ⟨⟨_, _, _, ba4, by simp only [List.length_append, List.length_singleton]; omega, fun c hc => by
              simp only [List.mem_append, List.mem_singleton] at hc
              have a1 := HNX.out
              rcases hc with hc | rfl
              · exact hcl c hc
              · omega⟩, bl4, hKw⟩⟩
          case measure => simp [intOf]; omega
        · have hpe : p = 2 := by omega
          subst hpe
          have HO' : Hid (OwS w K (2 * (q + 1)) wr) := Lib.hid (by have := HO.out; rwa [show 2 * (q + 1) = 2 * q + 2 by omega])
          clear HO
          go_wp2
          go_roundw
          case rel => exact ⟨q + 1, by omega, by omega, by go_num, HO'⟩
          case measure => simp [intOf]; omega
    · obtain ⟨⟨vs, us, cs, ba0, hvl, hcl⟩, bl0, hKw⟩ := HO.out
      have hv9 : vs.length ≤ 900 := by omega
      have hstop : n ≤ q ∨ 60 ≤ q := by omega
      clear HO hlt
      by_cases hnq : n ≤ q
      · have i1 : ¬ (q : Int) < (n : Int) := by omega
        go_wp2_with fail
        refine (finish_any (K + 1) K vs us cs wr ba0 (fun c hc => Nat.le_trans (hcl c hc) (by omega)) hv9).mono ?_
        rintro e w2 ⟨rfl, bf, fk⟩
        have bl1 := fk.2 _ w hKw bl0
        clear fk bl0 ba0 hvl hcl bf
        go_wp2_with fail
        refine (known_any w2 (hE.on bl1)).mono ?_
        rintro e w3 ⟨rfl, hb3⟩
        go_wp2
        go_ret
        exact ⟨rfl, bl1.trans (hb3.mono bl1.size)⟩
      · have i1 : (q : Int) < (n : Int) := by omega
        have i2 : ¬ (q : Int) < 60 := by omega
        go_wp2_with fail
        refine (finish_any (K + 1) K vs us cs wr ba0 (fun c hc => Nat.le_trans (hcl c hc) (by omega)) hv9).mono ?_
        rintro e w2 ⟨rfl, bf, fk⟩
        have bl1 := fk.2 _ w hKw bl0
        clear fk bl0 ba0 hvl hcl bf
        go_wp2_with fail
        refine (known_any w2 (hE.on bl1)).mono ?_
        rintro e w3 ⟨rfl, hb3⟩
        go_wp2
        go_ret
        exact ⟨rfl, bl1.trans (hb3.mono bl1.size)⟩
theorem stampOwns_law (l : List (Int × Int)) (A : Option Addr) (c : Nat) (w : World) (hE : Env w) (hs : ShowsS w A l) (hq : ∀ q ∈ l, q.1 ≤ 9223372036854775807) :
    Calls Tryz.prog 3 #[.slice A l.length c] w fun e w' => e = .returned (.bool true) ∧ Below w.heap.size w w' :=
  sown_loop l A c l.length w hE (Lib.hid rfl) hs hq

end Go.Proofs.YtdpcmokemjfelaaGreatDoor.Kp
