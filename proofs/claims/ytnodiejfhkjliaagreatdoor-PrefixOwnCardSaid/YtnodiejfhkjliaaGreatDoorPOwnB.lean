/- The walk of the statement on memory: prefixes' bytes are new memory, each time. -/
import Derived.Test.YtnodiejfhkjliaaGreatDoorPOwnA
import Derived.Test.YtnodiejfhkjliaaGreatDoorMK
import Derived.Test.YtnodiejfhkjliaaGreatDoorRPutB
namespace Go.Proofs.YtnodiejfhkjliaaGreatDoor.Kp
open Go.RowKit Go.Proofs.YtnodiejfhkjliaaGreatDoor.Wd Go.Proofs.YtnodiejfhkjliaaGreatDoor.Px Go.Proofs.YtnodiejfhkjliaaGreatDoor.By Go.Proofs.YtnodiejfhkjliaaGreatDoor.Pf Go.Proofs.YtnodiejfhkjliaaGreatDoor.En Go.Proofs.YtnodiejfhkjliaaGreatDoor.Pl

theorem put_o {f : Int} {hi lo : Nat} {b : Int} {X : List UInt8} {n : Nat} (h : Hid (pB f hi lo b = X)) (hn : Hid (X.length = n)) (w : World) (hh : hi < 18446744073709551616) (hl : lo < 18446744073709551616) :
    Calls Tryz.prog 5 #[.agg #[.int .i64 f, .int .u64 hi, .int .u64 lo, .int .i64 b]] w fun e w' => ∃ A k, e = .returned (.slice A n k) ∧ w'.ownsRow w.heap.size 5 1 (.slice A n k) n (X.map cel) ∧ Below w.heap.size w w' := by
  refine (put_any f hi lo b w hh hl).mono ?_
  rintro e w' ⟨v, rfl, hown, hb⟩
  rw [h.out, hn.out] at hown
  obtain ⟨A, k, rfl⟩ := own_slice hown
  exact ⟨A, k, rfl, hown, hb⟩
theorem rput_o {f : Int} {hi lo : Nat} {b : Int} {X : List UInt8} {n : Nat} (h : Hid (pB f hi lo b = X)) (hn : Hid (X.length = n)) (w : World) (hh : hi < 18446744073709551616) (hl : lo < 18446744073709551616) :
    Calls Tryz.prog 7 #[.agg #[.int .i64 f, .int .u64 hi, .int .u64 lo, .int .i64 b]] w fun e w' => ∃ A k, e = .returned (.slice A n k) ∧ w'.ownsRow w.heap.size 5 1 (.slice A n k) n (X.map cel) ∧ Below w.heap.size w w' := by
  refine (rput_any f hi lo b w hh hl).mono ?_
  rintro e w' ⟨v, rfl, hown, hb⟩
  rw [h.out, hn.out] at hown
  obtain ⟨A, k, rfl⟩ := own_slice hown
  exact ⟨A, k, rfl, hown, hb⟩
theorem puta_o {f : Int} {hi lo : Nat} {X : List UInt8} {n : Nat} (h : Hid (paB f hi lo = X)) (hn : Hid (X.length = n)) (w : World) (hh : hi < 18446744073709551616) (hl : lo < 18446744073709551616) :
    Calls Tryz.prog 6 #[.agg #[.int .i64 f, .int .u64 hi, .int .u64 lo]] w fun e w' => ∃ A k, e = .returned (.slice A n k) ∧ w'.ownsRow w.heap.size 5 1 (.slice A n k) n (X.map cel) ∧ Below w.heap.size w w' := by
  refine (putaddr_any f hi lo w hh hl).mono ?_
  rintro e w' ⟨v, rfl, hown, hb⟩
  rw [h.out, hn.out] at hown
  obtain ⟨A, k, rfl⟩ := own_slice hown
  exact ⟨A, k, rfl, hown, hb⟩
theorem get_n {l : List UInt8} {n : Nat} {G : Value} (hn : Hid (l.length = n)) (h : Hid (ofG (gtP l) = G)) (ad : Option Addr) (c : Nat) (w : World) (hc : n ≤ c) (hs : Shows cel w w.heap.size ad l) :
    Calls Tryz.prog 8 #[.slice ad n c] w fun e w' => e = .returned G ∧ Below w.heap.size w w' := by
  have hn' := hn.out
  subst hn'
  rw [← h.out]
  exact get_any l ad c w hc hs
theorem rget_n {l : List UInt8} {n : Nat} {G : Value} (hn : Hid (l.length = n)) (h : Hid (ofG (gtP l) = G)) (ad : Option Addr) (c : Nat) (w : World) (hc : n ≤ c) (hs : Shows cel w w.heap.size ad l) :
    Calls Tryz.prog 9 #[.slice ad n c] w fun e w' => e = .returned G ∧ Below w.heap.size w w' := by
  have hn' := hn.out
  subst hn'
  rw [← h.out]
  exact rget_any l ad c w hc hs
theorem ofG_formP (o : Option (Int × Nat × Nat × Int × Nat)) : ∃ (f x y b n e : Int), ofG o = .tuple #[.agg #[.int .i64 f, .int .u64 x, .int .u64 y, .int .i64 b], .int .i64 n, .int .i64 e] := by
  cases o with
  | none => exact ⟨_, _, _, _, _, _, rfl⟩
  | some p => exact ⟨_, _, _, _, _, _, rfl⟩
theorem samepre_y (f h l b : Int) (w : World) :
    Calls Tryz.prog 10 #[.agg #[.int .i64 f, .int .u64 h, .int .u64 l, .int .i64 b], .agg #[.int .i64 f, .int .u64 h, .int .u64 l, .int .i64 b]] w fun e w' => e = .returned (.bool true) ∧ Below w.heap.size w w' := by
  have := samepre_any f h l b f h l b w
  have e : smP f h l b f h l b = true := by unfold smP; rw [(smA_iff f h l f h l).2 ⟨rfl, rfl, rfl⟩]; simp
  rwa [e] at this
theorem shows_o {base n k : Nat} {A : Option Addr} {X : List UInt8} {W : World} (hn : Hid (X.length = n)) (h : W.ownsRow base 5 1 (.slice A n k) n (X.map cel)) : Shows cel W W.heap.size A X := by
  have hn' := hn.out
  subst hn'
  exact Shows.of_own (base := base) (e := 5) h
theorem Room.shows {R : Nat} {X : List UInt8} {r : List Value} {W : World} (h : Room R (X.map cel ++ r) W) (hl : X.length + r.length ≤ 64) : Shows cel W W.heap.size (some ⟨R, 0, none⟩) X :=
  Shows.of_head (h.own (by simpa using hl)) rfl
theorem Room.at_ {R i : Nat} {xs : List Value} {x : Value} {W : World} (h : Room R xs W) (hl : xs.length ≤ 64) (hx : xs[i]? = some x) : W.cell? ⟨R, i, none⟩ = some x :=
  ((h.own hl).cellAt i (by have := (List.getElem?_eq_some_iff.1 hx).1; omega)).trans hx
theorem shows_two (W : World) (t : TypeId) : Shows cel (W.alloc (.cells #[.int .u8 47, .int .u8 11] t)) (W.alloc (.cells #[.int .u8 47, .int .u8 11] t)).heap.size (some ⟨W.heap.size, 0, none⟩) [47, 11] := fun _ => by
  refine ⟨W.heap.size, 0, rfl, by simp, fun i x hx => ?_⟩
  match i, hx with
  | 0, hx => simp at hx; subst hx; go_simp; rfl
  | 1, hx => simp at hx; subst hx; go_simp; rfl
/-- all blocks of the rows lie below -/
def Tp (vs : List Value) (H : Nat) : Prop := ∀ (i : Nat) (u : Value) (g : Nat), vs[i]? = some u → u.ownBlock = some g → g < H
theorem Tp.of {B : Nat} {vs : List Value} {cs : List (List UInt8)} {W : World} (h : Rws B vs cs W) : Tp vs W.heap.size := fun i u g hu hg => by
  obtain ⟨c, hc⟩ : ∃ c, cs[i]? = some c := ⟨_, List.getElem?_eq_getElem (by rw [← h.len]; exact (List.getElem?_eq_some_iff.1 hu).1)⟩
  exact ((h.own i u c hu hc).lt g hg).2
theorem Tp.snoc {vs : List Value} {H H' : Nat} (h : Tp vs H) (hH : H ≤ H') {v : Value} (hv : ∀ g, v.ownBlock = some g → g < H') : Tp (vs ++ [v]) H' := fun i u g hu hg => by
  rcases get_snoc hu with ⟨h1, -⟩ | ⟨-, rfl⟩
  · exact Nat.lt_of_lt_of_le (h i u g h1 hg) hH
  · exact hv g hg
theorem Tp.fresh {vs : List Value} {H base n : Nat} {e : TypeId} {v : Value} {xs : List Value} {W : World} (h : Tp vs H) (ho : W.ownsRow base e 1 v n xs) (hb : H ≤ base) : ∀ (i : Nat) (u : Value) (g : Nat), vs[i]? = some u → u.ownBlock = some g → v.ownBlock ≠ some g := fun i u g hu hg e => by
  have h1 := h i u g hu hg
  have h2 := (ho.lt g e).1
  omega

/-- the zero book's cells -/
def bkz : Array Value := #[.int .i64 0, .int .i64 0, .slice none 0 0, .slice none 0 0, .slice none 0 0, .slice none 0 0, .slice none 0 0, .slice none 0 0, .slice none 0 0, .slice none 0 0, .slice none 0 0, .slice none 0 0, .slice none 0 0, .slice none 0 0, .slice none 0 0, .slice none 0 0, .slice none 0 0, .slice none 0 0, .slice none 0 0, .slice none 0 0, .slice none 0 0, .slice none 0 0, .slice none 0 0, .slice none 0 0, .slice none 0 0, .slice none 0 0, .slice none 0 0, .slice none 0 0, .slice none 0 0, .slice none 0 0, .slice none 0 0, .slice none 0 0, .slice none 0 0, .slice none 0 0, .slice none 0 0, .slice none 0 0, .slice none 0 0, .slice none 0 0, .slice none 0 0, .slice none 0 0, .slice none 0 0, .slice none 0 0, .slice none 0 0, .slice none 0 0, .slice none 0 0, .slice none 0 0, .slice none 0 0, .slice none 0 0, .slice none 0 0, .slice none 0 0, .slice none 0 0, .slice none 0 0, .slice none 0 0]
set_option maxRecDepth 20000 in
theorem bd_book (w : World) : (Instr.build 43 #[]).run Tryz.prog w = .ok (.agg bkz) w := run_build w _ #[] _ (by kernel_rfl)
theorem wpList_bk {ops : Array Oper} {rest : List Oper} {o : Oper} {a : Act} {Q : Exit → Act → World → Prop} {W : World} (hgd : o.guard = none) (ho : o.op = .build 43 #[])
    (h : wpList Tryz.prog ops Q rest (a.put o.dst (.agg bkz)) W) : wpList Tryz.prog ops Q (o :: rest) a W := by
  refine wpList_plain hgd fun K hK => ?_
  unfold Oper.wp execOp
  simp only [ho, Sem.run_bind, List.map_toArray, List.map_nil, bd_book, Result.andThen_ok]
  exact hK _ _ h
theorem bk_newz (w : World) (t : TypeId) : Bk w.heap.size 0 (.slice none 0 0) (.slice none 0 0) (.slice none 0 0) (w.alloc (.cells bkz t)) := bk_new w t

theorem own_low {w : World} {base base' : Nat} {e : TypeId} {n : Nat} {v : Value} {xs : List Value} (h : w.ownsRow base e 1 v n xs) (hb : base' ≤ base) : w.ownsRow base' e 1 v n xs := by
  obtain ⟨h1, h2⟩ := h
  refine ⟨h1, ?_⟩
  rcases h2 with h2 | ⟨g, cap, cur, r1, r2, r3, r4⟩
  · exact .inl h2
  · exact .inr ⟨g, cap, cur, r1, Nat.le_trans hb r2, r3, r4⟩
theorem keep_n {l : List UInt8} {n B K base k : Nat} {vs us : List Value} {cs : List (List UInt8)} {A : Option Addr} {w : World} (hn : Hid (l.length = n)) (h : BkA B K vs us cs w) (hv : w.ownsRow base 5 1 (.slice A n k) n (l.map cel)) (hb : B ≤ base) (tp : Tp vs base) (hl : n ≤ 18) (hvl : vs.length ≤ 400) :
    Calls Tryz.prog 12 #[.pointer (some ⟨K, 0, none⟩), .slice A n k] w fun e w' => e = .returned (.tuple #[]) ∧ ∃ u, BkA B K (vs ++ [.slice A n k]) (us ++ [u]) (cs ++ [l]) w' ∧ FrU K w w' := by
  have hn' := hn.out
  subst hn'
  exact keep_any B K vs us cs _ l w h (own_low hv hb) (tp.fresh hv (Nat.le_refl _)) (by omega) (by omega)
theorem Room.fru {K : Nat} {xs : List Value} {W W' : World} (h : Room (K + 1) xs W) (hf : FrU K W W') : Room (K + 1) xs W' := by
  obtain ⟨cur, h1, h2, h3⟩ := h
  exact ⟨cur, hf.u8 _ _ _ (by omega) h1, h2, h3⟩
theorem Room.two {R n : Nat} {X : List UInt8} {W : World} (hn : Hid (X.length = n)) (h : Room R (X.map cel ++ [47, 11].map cel) W) (hl : n ≤ 18) : W.cell? ⟨R, n, none⟩ = some (.int .u8 47) ∧ W.cell? ⟨R, n + 1, none⟩ = some (.int .u8 11) := by
  have hn' := hn.out
  subst hn'
  refine ⟨h.at_ (by simp; omega) ?_, h.at_ (by simp; omega) ?_⟩
  · rw [List.getElem?_append_right (by simp)]; simp; rfl
  · rw [List.getElem?_append_right (by simp)]; simp; rfl
theorem cell4 (w : World) (x0 x1 x2 x3 : Value) (t : TypeId) : (w.alloc (.cells #[x0, x1, x2, x3] t)).cell? ⟨w.heap.size, 0, none⟩ = some x0 ∧ (w.alloc (.cells #[x0, x1, x2, x3] t)).cell? ⟨w.heap.size, 1, none⟩ = some x1 ∧ (w.alloc (.cells #[x0, x1, x2, x3] t)).cell? ⟨w.heap.size, 2, none⟩ = some x2 ∧ (w.alloc (.cells #[x0, x1, x2, x3] t)).cell? ⟨w.heap.size, 3, none⟩ = some x3 := by
  refine ⟨?_, ?_, ?_, ?_⟩ <;> go_simp
theorem ShowsP.cells {w W : World} {b0 o0 i : Nat} {l : List (Int × Nat × Nat × Int)} {f : Int} {hi lo : Nat} {b : Int} (h : ShowsP w (some ⟨b0, o0, none⟩) l) (hb : Below w.heap.size w W) (hq : l[i]? = some (f, hi, lo, b)) :
    W.cell? ⟨b0, o0 + i * 4, none⟩ = some (.int .i64 f) ∧ W.cell? ⟨b0, o0 + i * 4 + 1, none⟩ = some (.int .u64 (hi : Int)) ∧ W.cell? ⟨b0, o0 + i * 4 + 2, none⟩ = some (.int .u64 (lo : Int)) ∧ W.cell? ⟨b0, o0 + i * 4 + 3, none⟩ = some (.int .i64 b) := by
  obtain ⟨b1, o1, e, h0, h1, h2, h3⟩ := h.at_ hb hq
  injection e with e
  injection e with e1 e2 _
  subst e1 e2
  exact ⟨h0, h1, h2, h3⟩

/-- the statement's loop between two rounds -/
structure OwS (w : World) (K q : Nat) (W : World) : Prop where
  ex : ∃ vs us cs, BkA (K + 2) K vs us cs W ∧ vs.length = 4 * q ∧ ∀ c ∈ cs, c.length ≤ 18
  rm : ∃ xs, Room (K + 1) xs W
  bl : Below w.heap.size w W
  kw : w.heap.size ≤ K

set_option maxRecDepth 20000 in
set_option maxHeartbeats 16000000 in
theorem own_loop (l : List (Int × Nat × Nat × Int)) (A : Option Addr) (c n : Nat) (w : World) (hE : Env w) (HL : Hid (l.length = n)) (hn : n ≤ 60) (hs : ShowsP w A l) (hq : ∀ q ∈ l, q.2.1 < 18446744073709551616 ∧ q.2.2.1 < 18446744073709551616) :
    Calls Tryz.prog 3 #[.slice A n c] w fun e w' => e = .returned (.bool true) ∧ Below w.heap.size w w' := by
  have hmk : ∀ w : World, (Instr.makeSlice 44 (.int .i64 0) (.int .i64 64)).run Tryz.prog w = .ok (.slice (some ⟨w.heap.size, 0, none⟩) 0 64) (w.alloc (.cells (Array.replicate 64 (.int .u8 0)) 5)) := fun _ => by kernel_rfl
  go_enter Tryz.func3, Tryz.ntmps3
  go_wp2_with fail
  refine (first_any w hE).mono ?_
  rintro e w1 ⟨rfl, hb1⟩
  have hE1 := hE.on hb1
  have i60 : ¬ (60 : Int) < (n : Int) := by omega
  have bk0 := bk_newz w1 43
  have bk1 := bk0.on (W' := (w1.alloc (.cells bkz 43)).alloc (.cells (Array.replicate 64 (.int .u8 0)) 5)) (heap_alloc_old _ _ (by simp))
  have ba1 := bka_new bk1 (by simp)
  have rm1 : Room (w1.heap.size + 1) [] ((w1.alloc (.cells bkz 43)).alloc (.cells (Array.replicate 64 (.int .u8 0)) 5)) := ⟨_, by have := heap_alloc_new (w1.alloc (.cells bkz 43)) (.cells (Array.replicate 64 (.int .u8 0)) 5); rwa [World.size_alloc] at this, by simp, rfl⟩
  have ow1 : OwS w w1.heap.size 0 ((w1.alloc (.cells bkz 43)).alloc (.cells (Array.replicate 64 (.int .u8 0)) 5)) := ⟨⟨_, _, _, ba1, rfl, fun c hc => by simp at hc⟩, ⟨_, rm1⟩, (hb1.alloc hb1.size _).alloc (by have := hb1.size; simp; omega) _, hb1.size⟩
  clear bk0 bk1 ba1 rm1
  go_wp2_with (refine wpList_bk rfl rfl ?_)
  clear hmk
  generalize (w1.alloc (.cells bkz 43)).alloc (.cells (Array.replicate 64 (.int .u8 0)) 5) = W0 at ow1 ⊢
  generalize w1.heap.size = K at ow1 ⊢
  go_loopw [5, 6] (fun r i wr => ∃ q m : Nat, q ≤ n ∧ m ≤ 64 ∧ i = .int .i64 (q : Int) ∧ r = .slice (some ⟨K + 1, 0, none⟩) m 64 ∧ Hid (OwS w K q wr)) (fun _ i _ => n - (intOf i).toNat)
  case atStart => exact ⟨0, 0, Nat.zero_le _, by omega, rfl, rfl, Lib.hid ow1⟩
  case round =>
    clear ow1
    obtain ⟨q, m, hqn, hm64, rfl, rfl, HO⟩ := hrel
    by_cases hlt : q < n
    · have i1 : (q : Int) < (n : Int) := by omega
      obtain ⟨⟨vs, us, cs, ba0, hvl, hcl⟩, ⟨xs, rm0⟩, bl0, hKw⟩ := HO.out
      obtain ⟨x, hx⟩ : ∃ x, l[q]? = some x := ⟨_, List.getElem?_eq_getElem (by rw [HL.out]; exact hlt)⟩
      obtain ⟨f, hi, lo, b⟩ := x
      obtain ⟨hh, hl⟩ := hq _ (List.mem_of_getElem? hx)
      have hh : hi < 18446744073709551616 := hh
      have hl : lo < 18446744073709551616 := hl
      obtain ⟨X, hX⟩ : ∃ X, pB f hi lo b = X := ⟨_, rfl⟩
      obtain ⟨Y, hY⟩ : ∃ Y, paB f hi lo = Y := ⟨_, rfl⟩
      obtain ⟨nx, hnx⟩ : ∃ k, X.length = k := ⟨_, rfl⟩
      obtain ⟨ny, hny⟩ : ∃ k, Y.length = k := ⟨_, rfl⟩
      have hx18 : nx ≤ 18 := by rw [← hnx, ← hX]; exact pB_len _ _ _ _
      have hy18 : ny ≤ 18 := by rw [← hny, ← hY]; have := paB_len f hi lo; omega
      obtain ⟨F, G1, G2, G3, G4, G5, hG⟩ := ofG_formP (gtP X)
      have HX := Lib.hid hX
      have HY := Lib.hid hY
      have HNX := Lib.hid hnx
      have HNY := Lib.hid hny
      have HG := Lib.hid hG
      have HQ := Lib.hid hx
      have tp0 := Tp.of ba0.rv
      clear hX hY hnx hny hG hx HO
      obtain ⟨b0, o0, hA, -, -, -, -⟩ := hs.at_ bl0 HQ.out
      subst hA
      obtain ⟨e0, e1, e2, e3⟩ := hs.cells bl0 HQ.out
      have hKr := rm0.lt
      go_wp2_with fail
      refine (put_o HX HNX wr hh hl).mono ?_
      rintro e wa ⟨Aa, ka, rfl, oa1, h1⟩
      have ba1 := ba0.on h1
      have rm1 := rm0.kept (h1.block (K + 1) rm0.lt)
      have bl1 := bl0.trans (h1.mono bl0.size)
      clear e0 e1 e2 e3
      obtain ⟨e0, e1, e2, e3⟩ := hs.cells bl1 HQ.out
      have s1 : wr.heap.size ≤ wa.heap.size := h1.size
      have tp1 := tp0.snoc s1 fun g hg => (oa1.lt g hg).2
      clear ba0 rm0 bl0 
      go_wp2_with fail
      refine (put_o HX HNX wa hh hl).mono ?_
      rintro e wb ⟨Ab, kb, rfl, ob2, h2⟩
      have ba2 := ba1.on h2
      have rm2 := rm1.kept (h2.block (K + 1) rm1.lt)
      have bl2 := bl1.trans (h2.mono bl1.size)
      have oa2 := own_on oa1 h2
      clear e0 e1 e2 e3
      obtain ⟨e0, e1, e2, e3⟩ := hs.cells bl2 HQ.out
      have s2 : wa.heap.size ≤ wb.heap.size := h2.size
      have tp2 := tp1.snoc s2 fun g hg => (ob2.lt g hg).2
      clear ba1 rm1 bl1 oa1
      go_wp2_with fail
      refine (puta_o HY HNY wb hh hl).mono ?_
      rintro e wc ⟨Ac, kc, rfl, oc3, h3⟩
      have ba3 := ba2.on h3
      have rm3 := rm2.kept (h3.block (K + 1) rm2.lt)
      have bl3 := bl2.trans (h3.mono bl2.size)
      have oa3 := own_on oa2 h3
      have ob3 := own_on ob2 h3
      clear e0 e1 e2 e3
      obtain ⟨e0, e1, e2, e3⟩ := hs.cells bl3 HQ.out
      have s3 : wb.heap.size ≤ wc.heap.size := h3.size
      have tp3 := tp2.snoc s3 fun g hg => (oc3.lt g hg).2
      clear ba2 rm2 bl2 oa2 ob2
      go_wp2_with fail
      refine (puta_o HY HNY wc hh hl).mono ?_
      rintro e wd ⟨Ad, kd, rfl, od4, h4⟩
      have ba4 := ba3.on h4
      have rm4 := rm3.kept (h4.block (K + 1) rm3.lt)
      have bl4 := bl3.trans (h4.mono bl3.size)
      have oa4 := own_on oa3 h4
      have ob4 := own_on ob3 h4
      have oc4 := own_on oc3 h4
      clear e0 e1 e2 e3
      obtain ⟨e0, e1, e2, e3⟩ := hs.cells bl4 HQ.out
      have s4 : wc.heap.size ≤ wd.heap.size := h4.size
      have tp4 := tp3.snoc s4 fun g hg => (od4.lt g hg).2
      clear ba3 rm3 bl3 oa3 ob3 oc3
      go_wp2_with fail
      refine (rput_o HX HNX wd hh hl).mono ?_
      rintro e wx ⟨Ax, kx, rfl, ox5, h5⟩
      have ba5 := ba4.on h5
      have rm5 := rm4.kept (h5.block (K + 1) rm4.lt)
      have bl5 := bl4.trans (h5.mono bl4.size)
      have oa5 := own_on oa4 h5
      have ob5 := own_on ob4 h5
      have oc5 := own_on oc4 h5
      have od5 := own_on od4 h5
      clear e0 e1 e2 e3
      have s5 : wd.heap.size ≤ wx.heap.size := h5.size
      clear ba4 rm4 bl4 oa4 ob4 oc4 od4
      have sh5 := shows_o HNX ox5
      have rm5' := rm5.none_
      go_wp2_with (at_builtin; go_loud (refine wpList_append_fit (K + 1) _ rfl _ _ rfl [] X Ax 0 nx kx rfl rfl rfl HNX.out rm5' sh5 (by omega) ?_))
      intro w6 rm6 bt6
      have ba6 := ba5.but bt6 (by omega) (by omega)
      have bl6 := bt6.bl w.heap.size w (by omega) bl5
      have oa6 := own_mv oa5 fun k hk => bt6.blk k (by have := (oa5.lt k hk).1; omega)
      have ob6 := own_mv ob5 fun k hk => bt6.blk k (by have := (ob5.lt k hk).1; omega)
      have oc6 := own_mv oc5 fun k hk => bt6.blk k (by have := (oc5.lt k hk).1; omega)
      have od6 := own_mv od5 fun k hk => bt6.blk k (by have := (od5.lt k hk).1; omega)
      have ox6 := own_mv ox5 fun k hk => bt6.blk k (by have := (ox5.lt k hk).1; omega)
      have s6 := bt6.size
      clear ba5 rm5 rm5' sh5 bl5 oa5 ob5 oc5 od5 ox5
      have h7 := one w6 (.cells #[.int .u8 47, .int .u8 11] 5)
      have s7 : (w6.alloc (.cells #[.int .u8 47, .int .u8 11] 5)).heap.size = w6.heap.size + 1 := by simp
      have ba7 := ba6.on h7
      have rm7 := rm6.kept (h7.block (K + 1) rm6.lt)
      have bl7 := bl6.trans (h7.mono bl6.size)
      have oa7 := own_on oa6 h7
      have ob7 := own_on ob6 h7
      have oc7 := own_on oc6 h7
      have od7 := own_on od6 h7
      have ox7 := own_on ox6 h7
      have sh7 := shows_two w6 5
      go_wp2_with (at_builtin; go_loud (refine wpList_append_fit (K + 1) _ rfl _ _ rfl (X.map cel) [47, 11] (some ⟨w6.heap.size, 0, none⟩) nx 2 2 (by go_simp) (by go_simp) (by rw [List.length_map]; exact HNX.out) rfl rm7 sh7 (by omega) ?_))
      intro w8 rm8 bt8
      have ba8 := ba7.but bt8 (by omega) (by omega)
      have bl8 := bt8.bl w.heap.size w (by omega) bl7
      have oa8 := own_mv oa7 fun k hk => bt8.blk k (by have := (oa7.lt k hk).1; omega)
      have ob8 := own_mv ob7 fun k hk => bt8.blk k (by have := (ob7.lt k hk).1; omega)
      have oc8 := own_mv oc7 fun k hk => bt8.blk k (by have := (oc7.lt k hk).1; omega)
      have od8 := own_mv od7 fun k hk => bt8.blk k (by have := (od7.lt k hk).1; omega)
      have ox8 := own_mv ox7 fun k hk => bt8.blk k (by have := (ox7.lt k hk).1; omega)
      have s8 := bt8.size
      clear ba7 rm7 bl7 sh7 h7 oa7 ob7 oc7 od7 ox7
      have shr8 := rm8.shows (by have := HNX.out; simp; omega)
      go_wp2_with fail
      refine (get_n HNX HG _ 64 w8 (by omega) shr8).mono ?_
      rintro e w9 ⟨rfl, h9⟩
      have ba9 := ba8.on h9
      have rm9 := rm8.kept (h9.block (K + 1) rm8.lt)
      have bl9 := bl8.trans (h9.mono bl8.size)
      have oa9 := own_on oa8 h9
      have ob9 := own_on ob8 h9
      have oc9 := own_on oc8 h9
      have od9 := own_on od8 h9
      have ox9 := own_on ox8 h9
      clear ba8 rm8 bl8 shr8 oa8 ob8 oc8 od8 ox8
      have h10 := one w9 (.cells #[.int .i64 F, .int .u64 G1, .int .u64 G2, .int .i64 G3] 50)
      have s10 : (w9.alloc (.cells #[.int .i64 F, .int .u64 G1, .int .u64 G2, .int .i64 G3] 50)).heap.size = w9.heap.size + 1 := by simp
      obtain ⟨g0, g1, g2, g3⟩ := cell4 w9 (.int .i64 F) (.int .u64 G1) (.int .u64 G2) (.int .i64 G3) 50
      have ba10 := ba9.on h10
      have rm10 := rm9.kept (h10.block (K + 1) rm9.lt)
      have bl10 := bl9.trans (h10.mono bl9.size)
      have oa10 := own_on oa9 h10
      have ob10 := own_on ob9 h10
      have oc10 := own_on oc9 h10
      have od10 := own_on od9 h10
      have ox10 := own_on ox9 h10
      clear ba9 rm9 bl9 oa9 ob9 oc9 od9 ox9
      have shx10 := shows_o HNX ox10
      have kx10 := (own_cap ox10).1
      go_wp2_with fail
      refine (rget_n HNX HG Ax kx (w9.alloc (.cells #[.int .i64 F, .int .u64 G1, .int .u64 G2, .int .i64 G3] 50)) kx10 shx10).mono ?_
      rintro e w11 ⟨rfl, h11⟩
      have ba11 := ba10.on h11
      have rm11 := rm10.kept (h11.block (K + 1) rm10.lt)
      have bl11 := bl10.trans (h11.mono bl10.size)
      have oa11 := own_on oa10 h11
      have ob11 := own_on ob10 h11
      have oc11 := own_on oc10 h11
      have od11 := own_on od10 h11
      have ox11 := own_on ox10 h11
      clear ba10 rm10 bl10 oa10 ob10 oc10 od10 ox10
      have g0 := (h11.cell (p := ⟨w9.heap.size, 0, none⟩) (by show w9.heap.size < _; omega)).trans g0
      have g1 := (h11.cell (p := ⟨w9.heap.size, 1, none⟩) (by show w9.heap.size < _; omega)).trans g1
      have g2 := (h11.cell (p := ⟨w9.heap.size, 2, none⟩) (by show w9.heap.size < _; omega)).trans g2
      have g3 := (h11.cell (p := ⟨w9.heap.size, 3, none⟩) (by show w9.heap.size < _; omega)).trans g3
      have s11 : (w9.alloc (.cells #[.int .i64 F, .int .u64 G1, .int .u64 G2, .int .i64 G3] 50)).heap.size ≤ w11.heap.size := h11.size
      have h12 := one w11 (.cells #[.int .i64 F, .int .u64 G1, .int .u64 G2, .int .i64 G3] 50)
      have s12 : (w11.alloc (.cells #[.int .i64 F, .int .u64 G1, .int .u64 G2, .int .i64 G3] 50)).heap.size = w11.heap.size + 1 := by simp
      obtain ⟨j0, j1, j2, j3⟩ := cell4 w11 (.int .i64 F) (.int .u64 G1) (.int .u64 G2) (.int .i64 G3) 50
      have g0 := (h12.cell (p := ⟨w9.heap.size, 0, none⟩) (by show w9.heap.size < _; omega)).trans g0
      have g1 := (h12.cell (p := ⟨w9.heap.size, 1, none⟩) (by show w9.heap.size < _; omega)).trans g1
      have g2 := (h12.cell (p := ⟨w9.heap.size, 2, none⟩) (by show w9.heap.size < _; omega)).trans g2
      have g3 := (h12.cell (p := ⟨w9.heap.size, 3, none⟩) (by show w9.heap.size < _; omega)).trans g3
      have ba12 := ba11.on h12
      have rm12 := rm11.kept (h12.block (K + 1) rm11.lt)
      have bl12 := bl11.trans (h12.mono bl11.size)
      have oa12 := own_on oa11 h12
      have ob12 := own_on ob11 h12
      have oc12 := own_on oc11 h12
      have od12 := own_on od11 h12
      have ox12 := own_on ox11 h12
      clear ba11 rm11 bl11 oa11 ob11 oc11 od11 ox11
      clear shx10 kx10 h9 h10 h11
      go_wp2_with fail
      refine (samepre_y F G1 G2 G3 (w11.alloc (.cells #[.int .i64 F, .int .u64 G1, .int .u64 G2, .int .i64 G3] 50))).mono ?_
      rintro e w13 ⟨rfl, h13⟩
      have ba13 := ba12.on h13
      have rm13 := rm12.kept (h13.block (K + 1) rm12.lt)
      have bl13 := bl12.trans (h13.mono bl12.size)
      have oa13 := own_on oa12 h13
      have ob13 := own_on ob12 h13
      have oc13 := own_on oc12 h13
      have od13 := own_on od12 h13
      have ox13 := own_on ox12 h13
      clear ba12 rm12 bl12 oa12 ob12 oc12 od12 ox12
      clear g0 g1 g2 g3 j0 j1 j2 j3 h12
      have shr := rm13.shows (by have := HNX.out; simp; omega)
      have shx := shows_o HNX ox13
      go_wp2_with fail
      refine (same_m HNX (by omega) (some ⟨K + 1, 0, none⟩) Ax 64 kx w13 shr shx).mono ?_
      rintro e w14 ⟨rfl, h14⟩
      have ba14 := ba13.on h14
      have rm14 := rm13.kept (h14.block (K + 1) rm13.lt)
      have bl14 := bl13.trans (h14.mono bl13.size)
      have oa14 := own_on oa13 h14
      have ob14 := own_on ob13 h14
      have oc14 := own_on oc13 h14
      have od14 := own_on od13 h14
      have ox14 := own_on ox13 h14
      clear ba13 rm13 bl13 oa13 ob13 oc13 od13 ox13
      obtain ⟨r0, r1⟩ := rm14.two HNX hx18
      have in0 : (nx : Int) < ((nx + 2 : Nat) : Int) := by omega
      have in1 : (nx : Int) + 1 < ((nx + 2 : Nat) : Int) := by omega
      have sha := shows_o HNX oa14
      have shb := shows_o HNX ob14
      clear shr shx h13
      go_wp2_with fail
      refine (same_m HNX (by omega) Aa Ab ka kb w14 sha shb).mono ?_
      rintro e w15 ⟨rfl, h15⟩
      have ba15 := ba14.on h15
      have rm15 := rm14.kept (h15.block (K + 1) rm14.lt)
      have bl15 := bl14.trans (h15.mono bl14.size)
      have oa15 := own_on oa14 h15
      have ob15 := own_on ob14 h15
      have oc15 := own_on oc14 h15
      have od15 := own_on od14 h15
      have ox15 := own_on ox14 h15
      clear ba14 rm14 bl14 oa14 ob14 oc14 od14 ox14
      have shc := shows_o HNY oc15
      have shd := shows_o HNY od15
      clear sha shb h14 r0 r1
      go_wp2_with fail
      refine (same_m HNY (by omega) Ac Ad kc kd w15 shc shd).mono ?_
      rintro e w16 ⟨rfl, h16⟩
      have ba16 := ba15.on h16
      have rm16 := rm15.kept (h16.block (K + 1) rm15.lt)
      have bl16 := bl15.trans (h16.mono bl15.size)
      have oa16 := own_on oa15 h16
      have ob16 := own_on ob15 h16
      have oc16 := own_on oc15 h16
      have od16 := own_on od15 h16
      have ox16 := own_on ox15 h16
      clear ba15 rm15 bl15 oa15 ob15 oc15 od15 ox15
      clear shc shd h15
      go_wp2_with fail
      refine (keep_n HNX ba16 oa16 (by omega) tp0 (by omega) (by omega)).mono ?_
      rintro e w17 ⟨rfl, u0, ba17, f17⟩
      have rm17 := rm16.fru f17
      have bl17 := f17.bl _ w hKw bl16
      have ob17 := f17.own ob16 (by omega)
      have oc17 := f17.own oc16 (by omega)
      have od17 := f17.own od16 (by omega)
      clear ba16 rm16 bl16 f17 oa16 ob16 oc16 od16
      go_wp2_with fail
      refine (keep_n HNX ba17 ob17 (by omega) tp1 (by omega) (by simp only [List.length_append, List.length_singleton]; omega)).mono ?_
      rintro e w18 ⟨rfl, u1, ba18, f18⟩
      have rm18 := rm17.fru f18
      have bl18 := f18.bl _ w hKw bl17
      have oc18 := f18.own oc17 (by omega)
      have od18 := f18.own od17 (by omega)
      clear ba17 rm17 bl17 f18 ob17 oc17 od17
      go_wp2_with fail
      refine (keep_n HNY ba18 oc18 (by omega) tp2 (by omega) (by simp only [List.length_append, List.length_singleton]; omega)).mono ?_
      rintro e w19 ⟨rfl, u2, ba19, f19⟩
      have rm19 := rm18.fru f19
      have bl19 := f19.bl _ w hKw bl18
      have od19 := f19.own od18 (by omega)
      clear ba18 rm18 bl18 f19 oc18 od18
      go_wp2_with fail
      refine (keep_n HNY ba19 od19 (by omega) tp3 (by omega) (by simp only [List.length_append, List.length_singleton]; omega)).mono ?_
      rintro e w20 ⟨rfl, u3, ba20, f20⟩
      have rm20 := rm19.fru f20
      have bl20 := f20.bl _ w hKw bl19
      clear ba19 rm19 bl19 f20 od19
      go_wp2
      go_roundw
      case rel => exact ⟨q + 1, nx + 2, by omega, by omega, by go_num, rfl, Lib.hid ⟨⟨_, _, _, ba20, by simp only [List.length_append, List.length_singleton]; omega, fun c hc => by
          simp only [List.mem_append, List.mem_singleton] at hc
          have a1 := HNX.out
          have a2 := HNY.out
          rcases hc with (((hc | rfl) | rfl) | rfl) | rfl
          · exact hcl c hc
          all_goals omega⟩, ⟨_, rm20⟩, bl20, hKw⟩⟩
      case measure => simp [intOf]; omega
    · -- the second loop
      obtain ⟨⟨vs, us, cs, ba0, hvl, hcl⟩, -, bl0, hKw⟩ := HO.out
      have hv9 : vs.length ≤ 900 := by omega
      have hq' : q = n := by omega
      clear HO hqn hlt hm64
      go_wp2_with fail
      refine (finish_any (K + 2) K vs us cs wr ba0 (fun c hc => Nat.le_trans (hcl c hc) (by omega)) hv9).mono ?_
      rintro e w1 ⟨rfl, bf, fk⟩
      have bl1 := fk.2 _ w hKw bl0
      clear fk bl0 ba0 hvl hcl
      go_wp2
      go_loopw [21, 22] (fun r i wr => ∃ q : Nat, q ≤ n ∧ i = .int .i64 (q : Int) ∧ r = .bool true ∧ Hid (BkF (K + 2) K vs wr ∧ Below w.heap.size w wr)) (fun _ i _ => n - (intOf i).toNat)
      case atStart => exact ⟨0, Nat.zero_le _, rfl, rfl, Lib.hid ⟨bf, bl1⟩⟩
      case round =>
        clear bf bl1
        obtain ⟨q, hqn, rfl, rfl, HO⟩ := hrel
        by_cases hlt : q < n
        · have i1 : (q : Int) < (n : Int) := by omega
          obtain ⟨bf0, bl0⟩ := HO.out
          obtain ⟨x, hx⟩ : ∃ x, l[q]? = some x := ⟨_, List.getElem?_eq_getElem (by rw [HL.out]; exact hlt)⟩
          obtain ⟨f, hi, lo, b⟩ := x
          obtain ⟨hh, hl⟩ := hq _ (List.mem_of_getElem? hx)
          have hh : hi < 18446744073709551616 := hh
          have hl : lo < 18446744073709551616 := hl
          obtain ⟨X, hX⟩ : ∃ X, pB f hi lo b = X := ⟨_, rfl⟩
          obtain ⟨nx, hnx⟩ : ∃ k, X.length = k := ⟨_, rfl⟩
          have hx18 : nx ≤ 18 := by rw [← hnx, ← hX]; exact pB_len _ _ _ _
          have HX := Lib.hid hX
          have HNX := Lib.hid hnx
          have HQ := Lib.hid hx
          clear hX hnx hx HO
          obtain ⟨b0, o0, hA, -, -, -, -⟩ := hs.at_ bl0 HQ.out
          subst hA
          obtain ⟨e0, e1, e2, e3⟩ := hs.cells bl0 HQ.out
          go_wp2_with fail
          refine (put_o HX HNX wr hh hl).mono ?_
          rintro e wa ⟨Aa, ka, rfl, oa1, h1⟩
          have bf1 := bf0.on h1
          have bl1 := bl0.trans (h1.mono bl0.size)
          clear e0 e1 e2 e3 bf0 bl0
          obtain ⟨e0, e1, e2, e3⟩ := hs.cells bl1 HQ.out
          go_wp2_with fail
          refine (rput_o HX HNX wa hh hl).mono ?_
          rintro e wb ⟨Ab, kb, rfl, ob2, h2⟩
          have bf2 := bf1.on h2
          have bl2 := bl1.trans (h2.mono bl1.size)
          have oa2 := own_on oa1 h2
          clear e0 e1 e2 e3 bf1 bl1 oa1 h1
          have sha := shows_o HNX oa2
          have shb := shows_o HNX ob2
          go_wp2_with fail
          refine (same_m HNX (by omega) Aa Ab ka kb wb sha shb).mono ?_
          rintro e wc ⟨rfl, h3⟩
          have bf3 := bf2.on h3
          have bl3 := bl2.trans (h3.mono bl2.size)
          clear bf2 bl2 oa2 ob2 sha shb h2
          go_wp2
          go_roundw
          case rel => exact ⟨q + 1, by omega, by go_num, rfl, Lib.hid ⟨bf3, bl3⟩⟩
          case measure => simp [intOf]; omega
        · obtain ⟨bf0, bl0⟩ := HO.out
          go_wp2_with fail
          refine (holds_done wr bf0 hv9).mono ?_
          rintro e w2 ⟨rfl, rfl⟩
          go_wp2
          go_ret
          exact ⟨rfl, bl0⟩

set_option maxRecDepth 20000 in
theorem own_many (A : Option Addr) (c n : Nat) (w : World) (hE : Env w) (hn : 60 < n) :
    Calls Tryz.prog 3 #[.slice A n c] w fun e w' => e = .returned (.bool true) ∧ Below w.heap.size w w' := by
  have i60 : (60 : Int) < (n : Int) := by omega
  go_enter Tryz.func3, Tryz.ntmps3
  go_wp2_with fail
  refine (first_any w hE).mono ?_
  rintro e w1 ⟨rfl, hb1⟩
  go_wp2
  go_ret
  exact ⟨rfl, hb1⟩
theorem prefixOwn_law (l : List (Int × Nat × Nat × Int)) (A : Option Addr) (c : Nat) (w : World) (hE : Env w) (hs : ShowsP w A l) (hq : ∀ q ∈ l, q.2.1 < 18446744073709551616 ∧ q.2.2.1 < 18446744073709551616) :
    Calls Tryz.prog 3 #[.slice A l.length c] w fun e w' => e = .returned (.bool true) ∧ Below w.heap.size w w' := by
  by_cases h : l.length ≤ 60
  · exact own_loop l A c l.length w hE (Lib.hid rfl) h hs hq
  · exact own_many A c l.length w hE (by omega)

end Go.Proofs.YtnodiejfhkjliaaGreatDoor.Kp
