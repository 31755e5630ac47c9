/- Plain and memory: rows of rows of bytes; append of one element, and what it leaves alone. -/
import Derived.Test.YtdpcmokemjfelaaGreatDoorKeptA
import Derived.Maps.AppendAt
import Derived.Laws.Append
import Derived.Laws.AppendOwn
namespace Go.Proofs.YtdpcmokemjfelaaGreatDoor.Kp
open Go.RowKit Go.Proofs.YtdpcmokemjfelaaGreatDoor.Wd Go.Proofs.YtdpcmokemjfelaaGreatDoor.Px Go.Proofs.YtdpcmokemjfelaaGreatDoor.By Go.Proofs.YtdpcmokemjfelaaGreatDoor.Pf

theorem Tryz.infoR : (Tryz.prog.info? 44).map (fun i => (i.zero, i.size, i.bytes)) = some (some (.slice none 0 0), 1, 24) := by kernel_rfl

theorem own_mv {w w1 : World} {base : Nat} {e : TypeId} {size n : Nat} {v : Value} {xs : List Value} (h : w.ownsRow base e size v n xs) (hm : ∀ k, v.ownBlock = some k → w1.heap[k]? = w.heap[k]?) : w1.ownsRow base e size v n xs := by
  obtain ⟨h1, h2⟩ := h
  refine ⟨h1, ?_⟩
  rcases h2 with h2 | ⟨g, cap, cur, rfl, hg, hh, r⟩
  · exact .inl h2
  · exact .inr ⟨g, cap, cur, rfl, hg, (hm g (by simp [Value.ownBlock])).trans hh, r⟩
theorem own_type {w : World} {base : Nat} {e : TypeId} {size n : Nat} {v : Value} {xs : List Value} (h : w.ownsRow base e size v n xs) {k : Nat} (hk : v.ownBlock = some k) : ∃ cells, w.heap[k]? = some (.cells cells e (0, 0)) := by
  rcases h.2 with ⟨rfl, _⟩ | ⟨g, cap, cur, rfl, _, hh, _⟩
  · simp [Value.ownBlock] at hk
  · have : g = k := by simpa [Value.ownBlock] using hk
    subst this
    exact ⟨cur, hh⟩
theorem ne_types {w : World} {k : Nat} {c c' : Array Value} {e e' : TypeId} (h : w.heap[k]? = some (.cells c e (0, 0))) (h' : w.heap[k]? = some (.cells c' e' (0, 0))) : e = e' := by
  rw [h] at h'
  injection h' with h'
  injection h' with _ h'

/-- what an append of one element to v leaves -/
structure Ap1 (v : Value) (n : Nat) (W : World) (v' : Value) (W' : World) : Prop where
  grown : W.grownBy W' v.ownBlock
  at_ : v'.ownBlock = v.ownBlock ∨ v'.ownBlock = some W.heap.size
  keep : ∀ (b' : Nat) (e' : TypeId) (u : Value) (m : Nat) (ys : List Value), W.ownsRow b' e' 1 u m ys → (u.ownBlock = v.ownBlock → m ≤ n) → W'.ownsRow b' e' 1 u m ys

set_option maxRecDepth 20000 in
theorem run_append_one {P : Program} (w : World) (t ty : TypeId) (base : Nat) (e : TypeId) (i : TypeInfo) (z : Value) (bytes : Nat) (ht : P.underlying t = some (.slice e)) (hi : P.info? e = some i) (hz : i.zero = some z)
    (hsize : i.size = 1) (hby : i.bytes = bytes) (hzs : z.cells.size = 1) (v : Value) (n : Nat) (xs : List Value) (hown : w.ownsRow base e 1 v n xs)
    (ad : Addr) (c : Nat) (x : Value) (hx : w.cell? ad = some x) (h1 : x.oneCell' = true) (h63 : n + 1 ≤ maxLen) (hbytes : (n + 1) * bytes ≤ 140737488355328) (hbase : base ≤ w.heap.size) :
    ∃ v' w', (Builtin.append_ #[t, t] ty #[v, .slice (some ad) 1 c]).run P w = .ok v' w' ∧ w'.ownsRow base e 1 v' (n + 1) (xs ++ [x]) ∧ Ap1 v n w v' w' := by
  have hnews : ∀ j u, [x][j]? = some u → w.cell? (ad.add j) = some u := by
    intro j u hj
    match j, hj with
    | 0, hj =>
      simp at hj
      subst hj
      simpa [Addr.add] using hx
  have h1' : ∀ u ∈ [x], u.oneCell' = true := by intro u hu; simp at hu; subst hu; exact h1
  have hlen : xs.length = n := by have := hown.1; omega
  have h63' : n + 1 ≤ 9223372036854775807 := by simpa [maxLen] using h63
  have fresh : ∀ (old : Nat), n ≤ old → Ap1 v n w (.slice (some ⟨w.heap.size, 0, none⟩) (n + 1) (grownCap w (n + 1) old e)) (w.drew.alloc (.cells (xs.toArray ++ [x].toArray ++ Builtin.zeroCells z.cells (grownCap w (n + 1) old e - (n + 1))) e)) := fun old ho =>
    ⟨⟨rfl, rfl, rfl, by simp, fun k hk _ => heap_alloc_old w.drew _ hk⟩, .inr rfl, fun b' e' u m ys hu _ => own_mv hu fun k hk => heap_alloc_old w.drew _ (hu.lt k hk).2⟩
  have freshO : ∀ (old : Nat), n ≤ old → (w.drew.alloc (.cells (xs.toArray ++ [x].toArray ++ Builtin.zeroCells z.cells (grownCap w (n + 1) old e - (n + 1))) e)).ownsRow base e 1 (.slice (some ⟨w.heap.size, 0, none⟩) (n + 1) (grownCap w (n + 1) old e)) (n + 1) (xs ++ [x]) := fun old ho => by
    have hge := grownCap_ge w (n + 1) old e
    have hcm : grownCap w (n + 1) old e ≤ maxLen := grownCap_le_maxLen w (n + 1) old e h63
    refine ⟨by simp [hlen], .inr ⟨w.heap.size, _, _, rfl, hbase, heap_alloc_new w.drew _, hge, hcm, ?_, ?_⟩⟩
    · simp only [Array.size_append, List.size_toArray, size_zeroCells, hzs, hlen, List.length_singleton]
      omega
    · simp only [Array.toList_append]
      rw [show (n + 1) * 1 = (xs ++ [x]).length by simp [hlen]]
      exact List.take_left
  rcases hown.2 with ⟨rfl, rfl⟩ | ⟨g, cap, cur, rfl, hbg, hg, hnc, hcm, hcs, htake⟩
  · obtain rfl : xs = [] := List.eq_nil_of_length_eq_zero hlen
    have hr := run_append_nil (P := P) w t ty e i z ht hi hz ad 1 c [x] (by rw [hsize]; rfl) hnews (by omega) (by omega) (by rw [hby]; omega)
    have f1 := fresh 0 (Nat.le_refl _)
    have f2 := freshO 0 (Nat.le_refl _)
    simp only [Nat.zero_add, List.nil_append, Array.empty_append] at f1 f2 ⊢
    exact ⟨_, _, hr, f2, f1⟩
  · by_cases hroom : n + 1 ≤ cap
    · have hcs' : cur.size = cap := by omega
      have hr := run_append_room (P := P) w t ty e i ht hi g n cap cur hg ad 1 c [x] (by rw [hsize]; rfl) hnews h1' hroom (by rw [hsize]; simp; omega)
      rw [hsize, Nat.mul_one] at hr
      rw [Nat.mul_one] at htake
      have hsz : (cur.toList.take n ++ [x] ++ cur.toList.drop (n + [x].length)).length = cap := by
        simp only [List.length_append, List.length_take, List.length_drop, Array.length_toList, List.length_singleton]; omega
      refine ⟨_, _, hr, ⟨by simp [hlen], .inr ⟨g, cap, _, rfl, hbg, setRow_heap w g cur _ e _ hg, hroom, hcm, ?_, ?_⟩⟩, ⟨rfl, rfl, rfl, by simp [World.setRow], fun k _ hk => setRow_other w g k _ (fun e => hk (by simp [Value.ownBlock, e]))⟩, .inl rfl, ?_⟩
      · rw [List.size_toArray, hsz, Nat.mul_one]
      · rw [htake]
        simp only [Nat.mul_one]
        rw [show n + 1 = (xs ++ [x]).length by simp [hlen]]
        exact List.take_left
      · intro b' e' u m ys hu hm
        by_cases hug : u.ownBlock = some g
        · have hmn := hm (by rw [hug]; rfl)
          rcases hu.2 with ⟨rfl, _⟩ | ⟨g2, cap2, cur2, rfl, hb2, hg2, hn2, hc2, hs2, ht2⟩
          · simp [Value.ownBlock] at hug
          · obtain rfl : g2 = g := by simpa [Value.ownBlock] using hug
            rw [hg] at hg2
            injection hg2 with hg2
            injection hg2 with e1 e2 _
            subst e1 e2
            refine ⟨hu.1, .inr ⟨g2, cap2, _, rfl, hb2, setRow_heap w g2 cur _ e _ hg, hn2, hc2, ?_, ?_⟩⟩
            · rw [List.size_toArray, hsz]; omega
            · rw [Nat.mul_one] at ht2 ⊢
              rw [← ht2]
              show ((cur.toList.take n ++ [x]) ++ cur.toList.drop (n + [x].length)).take m = _
              rw [List.append_assoc, List.take_append_of_le_length (by rw [List.length_take, Array.length_toList]; omega), List.take_take, Nat.min_eq_left hmn]
        · exact own_mv hu fun k hk => setRow_other w g k _ (fun e => hug (by rw [hk, e]))
    · have holds : ∀ j u, xs[j]? = some u → w.cell? ((⟨g, 0, none⟩ : Addr).add j) = some u := hown.cells (g := g) rfl
      have hr := run_append_grow (P := P) w t ty e i z ht hi hz ⟨g, 0, none⟩ n cap xs (by rw [hsize]; omega) holds ad 1 c [x] (by rw [hsize]; rfl) hnews (by omega) (by omega) (growslice_fits (by omega) (by rw [hby]; exact hbytes))
      exact ⟨_, _, hr, freshO cap hnc, fresh cap hnc⟩

/-- at the operation, for the walk -/
theorem wpList_append_one {P : Program} {w : World} {ops : Array Oper} {rest : List Oper} {o : Oper} {a : Act} {Q : Exit → Act → World → Prop} (hgd : o.guard = none) (s x : Operand) (t : TypeId)
    (ho : o.op = .call { callee := .builtin .append, args := #[s, x], argTypes := #[t, t] })
    (base : Nat) (e : TypeId) (i : TypeInfo) (z : Value) (bytes : Nat) (ht : P.underlying t = some (.slice e)) (hi : P.info? e = some i) (hz : i.zero = some z)
    (hsize : i.size = 1) (hby : i.bytes = bytes) (hzs : z.cells.size = 1) (v : Value) (n : Nat) (xs : List Value) (hs : a.eval s = v) (hown : w.ownsRow base e 1 v n xs)
    (ad : Addr) (c : Nat) (y : Value) (hx : a.eval x = .slice (some ad) 1 c) (hy : w.cell? ad = some y) (h1 : y.oneCell' = true) (h63 : n + 1 ≤ maxLen) (hbytes : (n + 1) * bytes ≤ 140737488355328) (hbase : base ≤ w.heap.size)
    (h : ∀ v' w', w'.ownsRow base e 1 v' (n + 1) (xs ++ [y]) → Ap1 v n w v' w' → wpList P ops Q rest (a.put o.dst v') w') : wpList P ops Q (o :: rest) a w := by
  obtain ⟨v', w', hr, h2, h3⟩ := run_append_one (P := P) w t o.type base e i z bytes ht hi hz hsize hby hzs v n xs hown ad c y hy h1 h63 hbytes hbase
  refine wpList_plain hgd fun K hK => ?_
  unfold Oper.wp execOp
  simp only [ho, resolve, invoke, builtin, Sem.run_bind, Sem.run_pure, Result.andThen_ok, List.map_toArray, List.map_cons, List.map_nil, hs, hx, hr]
  exact hK _ _ (h v' w' h2 h3)
/-- as a step of a region that draws its order -/
theorem step_append_one {P : Program} {w : World} {ops : Array Oper} {o : Oper} {a : Act} {K : Act → World → Prop} {Q : Exit → Act → World → Prop} {E : Prop} (hgd : o.guard = none) (s x : Operand) (t : TypeId)
    (ho : o.op = .call { callee := .builtin .append, args := #[s, x], argTypes := #[t, t] })
    (base : Nat) (e : TypeId) (i : TypeInfo) (z : Value) (bytes : Nat) (ht : P.underlying t = some (.slice e)) (hi : P.info? e = some i) (hz : i.zero = some z)
    (hsize : i.size = 1) (hby : i.bytes = bytes) (hzs : z.cells.size = 1) (v : Value) (n : Nat) (xs : List Value) (hs : a.eval s = v) (hown : w.ownsRow base e 1 v n xs)
    (ad : Addr) (c : Nat) (y : Value) (hx : a.eval x = .slice (some ad) 1 c) (hy : w.cell? ad = some y) (h1 : y.oneCell' = true) (h63 : n + 1 ≤ maxLen) (hbytes : (n + 1) * bytes ≤ 140737488355328) (hbase : base ≤ w.heap.size)
    (h : ∀ v' w', w'.ownsRow base e 1 v' (n + 1) (xs ++ [y]) → Ap1 v n w v' w' → K (a.put o.dst v') w') :
    if Region.wanted o (yielded ops a.tmps) = true then Oper.wp P o a w K Q else E := by
  obtain ⟨v', w', hr, h2, h3⟩ := run_append_one (P := P) w t o.type base e i z bytes ht hi hz hsize hby hzs v n xs hown ad c y hy h1 h63 hbytes hbase
  have hw : Region.wanted o (yielded ops a.tmps) = true := by simp [Region.wanted, hgd]
  rw [if_pos hw]
  unfold Oper.wp execOp
  simp only [ho, resolve, invoke, builtin, Sem.run_bind, Sem.run_pure, Result.andThen_ok, List.map_toArray, List.map_cons, List.map_nil, hs, hx, hr]
  exact h v' w' h2 h3

/-! ### rows of bytes kept -/
/-- the values' rows, their bytes -/
structure Rws (B : Nat) (vs : List Value) (cs : List (List UInt8)) (W : World) : Prop where
  len : vs.length = cs.length
  own : ∀ (i : Nat) (v : Value) (c : List UInt8), vs[i]? = some v → cs[i]? = some c → W.ownsRow B 5 1 v c.length (c.map cel)
/-- no two of them share a block -/
def Apt (vs : List Value) : Prop := ∀ (i j : Nat) (v u : Value) (g : Nat), vs[i]? = some v → vs[j]? = some u → v.ownBlock = some g → u.ownBlock = some g → i = j
theorem Rws.move {B : Nat} {vs : List Value} {cs : List (List UInt8)} {W W' : World} (h : Rws B vs cs W) (hm : ∀ g, B ≤ g → g < W.heap.size → W'.heap[g]? = W.heap[g]?) : Rws B vs cs W' :=
  ⟨h.len, fun i v c hv hc => own_mv (h.own i v c hv hc) fun k hk => hm k ((h.own i v c hv hc).lt k hk).1 ((h.own i v c hv hc).lt k hk).2⟩
theorem Rws.on {B : Nat} {vs : List Value} {cs : List (List UInt8)} {W W' : World} (h : Rws B vs cs W) (hb : Below W.heap.size W W') : Rws B vs cs W' := h.move fun g _ hg => hb.block g hg
theorem Rws.nil (B : Nat) (W : World) : Rws B [] [] W := ⟨rfl, fun i v c hv => by simp at hv⟩
theorem Rws.snoc {B : Nat} {vs : List Value} {cs : List (List UInt8)} {W : World} (h : Rws B vs cs W) {v : Value} {c : List UInt8} (hv : W.ownsRow B 5 1 v c.length (c.map cel)) : Rws B (vs ++ [v]) (cs ++ [c]) W := by
  refine ⟨by simp [h.len], fun i u d hu hd => ?_⟩
  by_cases hi : i < vs.length
  · rw [List.getElem?_append_left hi] at hu
    rw [List.getElem?_append_left (by rw [← h.len]; exact hi)] at hd
    exact h.own i u d hu hd
  · rw [List.getElem?_append_right (by omega)] at hu
    rw [List.getElem?_append_right (by rw [← h.len]; omega), ← h.len] at hd
    have h0 : i - vs.length = 0 := by
      have := (List.getElem?_eq_some_iff.1 hu).1
      simp at this; omega
    rw [h0] at hu hd
    simp at hu hd
    subst hu hd
    exact hv
theorem Apt.nil : Apt [] := fun i j v u g hv => by simp at hv
theorem Apt.snoc {vs : List Value} (h : Apt vs) {v : Value} (hv : ∀ (i : Nat) (u : Value) (g : Nat), vs[i]? = some u → u.ownBlock = some g → v.ownBlock ≠ some g) : Apt (vs ++ [v]) := by
  have key : ∀ (i : Nat) (u : Value), (vs ++ [v])[i]? = some u → vs[i]? = some u ∧ i < vs.length ∨ i = vs.length ∧ u = v := fun i u hu => by
    by_cases hi : i < vs.length
    · rw [List.getElem?_append_left hi] at hu
      exact .inl ⟨hu, hi⟩
    · rw [List.getElem?_append_right (by omega)] at hu
      have h0 := (List.getElem?_eq_some_iff.1 hu).1
      simp at h0
      have h1 : i = vs.length := by omega
      subst h1
      simp at hu
      exact .inr ⟨rfl, hu.symm⟩
  intro i j a b g ha hb hga hgb
  rcases key i a ha with ⟨h1, _⟩ | ⟨rfl, rfl⟩ <;> rcases key j b hb with ⟨h2, _⟩ | ⟨rfl, rfl⟩
  · exact h i j a b g h1 h2 hga hgb
  · exact absurd hgb (hv i a g h1 hga)
  · exact absurd hga (hv j b g h2 hgb)
  · rfl

end Go.Proofs.YtdpcmokemjfelaaGreatDoor.Kp
