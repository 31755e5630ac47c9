/- Memory: a book's rows, through each kind of step. -/
import Derived.Test.YtdpcmokemjfelaaGreatDoorKeptB
namespace Go.Proofs.YtdpcmokemjfelaaGreatDoor.Kp
open Go.RowKit Go.Proofs.YtdpcmokemjfelaaGreatDoor.Wd Go.Proofs.YtdpcmokemjfelaaGreatDoor.Px Go.Proofs.YtdpcmokemjfelaaGreatDoor.By Go.Proofs.YtdpcmokemjfelaaGreatDoor.Pf

/-- the book's three rows (kept, as they were, grown) and its block -/
structure Cor (B K p : Nat) (v0 v1 v2 : Value) (vs us gs : List Value) (W : World) : Prop where
  bk : Bk K p v0 v1 v2 W
  o0 : W.ownsRow B 44 1 v0 vs.length vs
  o1 : W.ownsRow B 44 1 v1 us.length us
  o2 : W.ownsRow B 44 1 v2 gs.length gs
  n01 : ∀ g, v0.ownBlock = some g → v1.ownBlock ≠ some g
  n02 : ∀ g, v0.ownBlock = some g → v2.ownBlock ≠ some g
  n12 : ∀ g, v1.ownBlock = some g → v2.ownBlock ≠ some g
  kb : K < B
  bw : B ≤ W.heap.size

section
variable {B K p : Nat} {v0 v1 v2 : Value} {vs us gs : List Value} {W W' : World}
theorem Cor.kw (h : Cor B K p v0 v1 v2 vs us gs W) : K < W.heap.size := Nat.lt_of_lt_of_le h.kb h.bw
theorem Cor.move (h : Cor B K p v0 v1 v2 vs us gs W) (hs : W.heap.size ≤ W'.heap.size) (hK : W'.heap[K]? = W.heap[K]?) (hm : ∀ g cells, B ≤ g → W.heap[g]? = some (.cells cells 44 (0, 0)) → W'.heap[g]? = W.heap[g]?) : Cor B K p v0 v1 v2 vs us gs W' :=
  have mv : ∀ {v : Value} {n : Nat} {xs : List Value}, W.ownsRow B 44 1 v n xs → W'.ownsRow B 44 1 v n xs := fun ho => own_mv ho fun k hk => by
    obtain ⟨cells, hc⟩ := own_type ho hk
    exact hm k cells (ho.lt k hk).1 hc
  ⟨h.bk.on hK, mv h.o0, mv h.o1, mv h.o2, h.n01, h.n02, h.n12, h.kb, Nat.le_trans h.bw hs⟩
theorem Cor.on (h : Cor B K p v0 v1 v2 vs us gs W) (hb : Below W.heap.size W W') : Cor B K p v0 v1 v2 vs us gs W' :=
  h.move hb.size (hb.block K h.kw) fun g _ _ hg => hb.block g (by
    rcases Nat.lt_or_ge g W.heap.size with hl | hl
    · exact hl
    · rw [Array.getElem?_eq_none hl] at hg; cases hg)
/-- a store into a row of bytes -/
theorem Cor.byte (h : Cor B K p v0 v1 v2 vs us gs W) {g : Nat} {cells : Array Value} (hg : W.heap[g]? = some (.cells cells 5 (0, 0))) (hB : B ≤ g) (j : Nat) (u : Value) : Cor B K p v0 v1 v2 vs us gs (W.setCell ⟨g, j, none⟩ u) :=
  h.move (by simp) (Below.heap_setCell W ⟨g, j, none⟩ u K (by have := h.kb; show K ≠ g; omega)) fun k cs _ hk => Below.heap_setCell W ⟨g, j, none⟩ u k (fun e => by
    have e' : k = g := e
    subst e'
    exact absurd (ne_types hk hg) (by decide))

/-- the block of a row of rows is none of a row of bytes -/
theorem rows_ne {b b' n m : Nat} {v u : Value} {xs ys : List Value} (h : W.ownsRow b 44 1 v n xs) (h' : W.ownsRow b' 5 1 u m ys) {g : Nat} (hg : v.ownBlock = some g) : u.ownBlock ≠ some g := fun e => by
  obtain ⟨c, hc⟩ := own_type h hg
  obtain ⟨c', hc'⟩ := own_type h' e
  exact absurd (ne_types hc hc') (by decide)
theorem own_none {b n m : Nat} {e : TypeId} {u : Value} {ys : List Value} (h : W.ownsRow b e 1 u m ys) (hu : u.ownBlock = none) : m ≤ n := by
  rcases h.2 with ⟨_, rfl⟩ | ⟨g, cap, cur, rfl, _⟩
  · exact Nat.zero_le _
  · simp [Value.ownBlock] at hu
/-- rows of bytes behind an append to a row of rows -/
theorem Rws.app {cs : List (List UInt8)} {ws xs : List Value} {v v' : Value} {n b : Nat} (h : Rws B ws cs W) (ho : W.ownsRow b 44 1 v n xs) (ha : Ap1 v n W v' W') : Rws B ws cs W' :=
  ⟨h.len, fun i u c hu hc => ha.keep _ _ _ _ _ (h.own i u c hu hc) fun e => by
    cases hv : v.ownBlock with
    | none => exact own_none (h.own i u c hu hc) (e.trans hv)
    | some g => exact absurd (e.trans hv) (rows_ne ho (h.own i u c hu hc) hv)⟩
theorem Rws.kset {cs : List (List UInt8)} {ws : List Value} (h : Rws B ws cs W) (hK : K < B) (o : Nat) (u : Value) : Rws B ws cs (W.setCell ⟨K, o, none⟩ u) :=
  h.move fun g hB _ => Below.heap_setCell W ⟨K, o, none⟩ u g (by show g ≠ K; omega)
theorem own_kset {b n : Nat} {e : TypeId} {v : Value} {xs : List Value} (h : W.ownsRow b e 1 v n xs) (hK : K < b) (o : Nat) (u : Value) : (W.setCell ⟨K, o, none⟩ u).ownsRow b e 1 v n xs :=
  own_mv h fun k hk => Below.heap_setCell W ⟨K, o, none⟩ u k (by have := (h.lt k hk).1; show k ≠ K; omega)

/-- what a step on the book leaves: rows of bytes, all that is old -/
structure FrU (K : Nat) (W W' : World) : Prop where
  u8 : ∀ k cs fr, K < k → W.heap[k]? = some (.cells cs 5 fr) → W'.heap[k]? = some (.cells cs 5 fr)
  size : W.heap.size ≤ W'.heap.size
  bl : ∀ (b : Nat) (w0 : World), b ≤ K → Below b w0 W → Below b w0 W'
theorem FrU.refl (K : Nat) (W : World) : FrU K W W := ⟨fun _ _ _ _ h => h, Nat.le_refl _, fun _ _ _ h => h⟩
theorem FrU.trans {A C D : World} (h : FrU K A C) (k : FrU K C D) : FrU K A D := ⟨fun i cs fr hi h0 => k.u8 i cs fr hi (h.u8 i cs fr hi h0), Nat.le_trans h.size k.size, fun b w0 hb h0 => k.bl b w0 hb (h.bl b w0 hb h0)⟩
theorem FrU.of_below (hb : Below W.heap.size W W') (hK : K < W.heap.size) : FrU K W W' :=
  ⟨fun k cs fr _ hk => (hb.block k (by
    rcases Nat.lt_or_ge k W.heap.size with hl | hl
    · exact hl
    · rw [Array.getElem?_eq_none hl] at hk; cases hk)).trans hk, hb.size, fun b w0 hbK h0 => h0.trans (hb.mono (by omega))⟩
theorem FrU.kset (K : Nat) (W : World) (o : Nat) (u : Value) : FrU K W (W.setCell ⟨K, o, none⟩ u) :=
  ⟨fun k cs fr hk h => (Below.heap_setCell W ⟨K, o, none⟩ u k (by show k ≠ K; omega)).trans h, by simp, fun b w0 hb h0 => h0.setCell (p := ⟨K, o, none⟩) hb u⟩
theorem FrU.app {n : Nat} {v v' : Value} {xs : List Value} (ho : W.ownsRow B 44 1 v n xs) (hK : K < B) (hBW : B ≤ W.heap.size) (ha : Ap1 v n W v' W') : FrU K W W' :=
  ⟨fun k cs fr hk h => (ha.grown.block k (by
    rcases Nat.lt_or_ge k W.heap.size with hl | hl
    · exact hl
    · rw [Array.getElem?_eq_none hl] at h; cases h) (fun e => by
      obtain ⟨c, hc⟩ := own_type ho e.symm
      rw [hc] at h
      injection h with h
      injection h with _ h
      exact absurd h (by decide))).trans h, ha.grown.size, fun b w0 hb h0 => h0.grown ha.grown (by omega) (fun j hj => by have := (ho.lt j hj).1; omega)⟩
theorem FrU.own {b n : Nat} {v : Value} {xs : List Value} (h : FrU K W W') (ho : W.ownsRow b 5 1 v n xs) (hb : K < b) : W'.ownsRow b 5 1 v n xs :=
  own_mv ho fun k hk => by
    obtain ⟨c, hc⟩ := own_type ho hk
    rw [hc]
    exact h.u8 k c (0, 0) (by have := (ho.lt k hk).1; omega) hc

theorem ap_ne {n : Nat} {v v' u : Value} {m b : Nat} {e : TypeId} {ys : List Value} (ha : Ap1 v n W v' W') (hu : W.ownsRow b e 1 u m ys) (hne : ∀ g, v.ownBlock = some g → u.ownBlock ≠ some g) : ∀ g, v'.ownBlock = some g → u.ownBlock ≠ some g := fun g hg e => by
  rcases ha.at_ with h | h
  · exact hne g (h.symm.trans hg) e
  · rw [h] at hg
    injection hg with hg
    have := (hu.lt g e).2
    omega
theorem ap_keep {n : Nat} {v v' u : Value} {m b : Nat} {e : TypeId} {ys : List Value} (ha : Ap1 v n W v' W') (hu : W.ownsRow b e 1 u m ys) (hne : ∀ g, v.ownBlock = some g → u.ownBlock ≠ some g) : W'.ownsRow b e 1 u m ys :=
  ha.keep _ _ _ _ _ hu fun e => by
    cases hv : v.ownBlock with
    | none => exact own_none hu (e.trans hv)
    | some g => exact absurd (e.trans hv) (hne g hv)
theorem kb_ne {n : Nat} {v : Value} {xs : List Value} {e : TypeId} (ho : W.ownsRow B e 1 v n xs) (hK : K < B) : some K ≠ v.ownBlock := fun h => by
  have := (ho.lt K h.symm).1
  omega

/-- a row gets one more element, and the book's cell is told so: row 0, 1, 2 -/
theorem Cor.app0 (h : Cor B K p v0 v1 v2 vs us gs W) {v' x : Value} (ha : Ap1 v0 vs.length W v' W') (ho : W'.ownsRow B 44 1 v' (vs.length + 1) (vs ++ [x])) : Cor B K p v' v1 v2 (vs ++ [x]) us gs (W'.setCell ⟨K, 2, none⟩ v') := by
  have hk : W'.heap[K]? = W.heap[K]? := ha.grown.block K h.kw (kb_ne h.o0 h.kb)
  have hB := h.bk.on hk
  have q1 := own_kset (ap_keep ha h.o1 h.n01) h.kb 2 v'
  have q2 := own_kset (ap_keep ha h.o2 h.n02) h.kb 2 v'
  have q0 := own_kset ho h.kb 2 v'
  refine ⟨?_, by simpa using q0, q1, q2, ap_ne ha h.o1 h.n01, ap_ne ha h.o2 h.n02, h.n12, h.kb, Nat.le_trans h.bw (by simpa using ha.grown.size)⟩
  obtain ⟨c0, c1, c2, c3, c4, nn, fz⟩ := hB
  exact ⟨by go_simp, by go_simp, by go_simp, by go_simp, by go_simp, fun o h1 h2 => by have := nn o h1 h2; have : ¬ o = 2 := by omega
                                                                                       go_simp, fun o => by have := fz o; go_simp⟩
theorem Cor.app1 (h : Cor B K p v0 v1 v2 vs us gs W) {v' x : Value} (ha : Ap1 v1 us.length W v' W') (ho : W'.ownsRow B 44 1 v' (us.length + 1) (us ++ [x])) : Cor B K p v0 v' v2 vs (us ++ [x]) gs (W'.setCell ⟨K, 3, none⟩ v') := by
  have hk : W'.heap[K]? = W.heap[K]? := ha.grown.block K h.kw (kb_ne h.o1 h.kb)
  have hB := h.bk.on hk
  have n10 : ∀ g, v1.ownBlock = some g → v0.ownBlock ≠ some g := fun g h1 h2 => h.n01 g h2 h1
  have q0 := own_kset (ap_keep ha h.o0 n10) h.kb 3 v'
  have q2 := own_kset (ap_keep ha h.o2 h.n12) h.kb 3 v'
  have q1 := own_kset ho h.kb 3 v'
  have m0 := ap_ne ha h.o0 n10
  refine ⟨?_, q0, by simpa using q1, q2, fun g h1 h2 => m0 g h2 h1, h.n02, ap_ne ha h.o2 h.n12, h.kb, Nat.le_trans h.bw (by simpa using ha.grown.size)⟩
  obtain ⟨c0, c1, c2, c3, c4, nn, fz⟩ := hB
  exact ⟨by go_simp, by go_simp, by go_simp, by go_simp, by go_simp, fun o h1 h2 => by have := nn o h1 h2; have : ¬ o = 3 := by omega
                                                                                       go_simp, fun o => by have := fz o; go_simp⟩
theorem Cor.app2 (h : Cor B K p v0 v1 v2 vs us gs W) {v' x : Value} (ha : Ap1 v2 gs.length W v' W') (ho : W'.ownsRow B 44 1 v' (gs.length + 1) (gs ++ [x])) : Cor B K p v0 v1 v' vs us (gs ++ [x]) (W'.setCell ⟨K, 4, none⟩ v') := by
  have hk : W'.heap[K]? = W.heap[K]? := ha.grown.block K h.kw (kb_ne h.o2 h.kb)
  have hB := h.bk.on hk
  have n20 : ∀ g, v2.ownBlock = some g → v0.ownBlock ≠ some g := fun g h1 h2 => h.n02 g h2 h1
  have n21 : ∀ g, v2.ownBlock = some g → v1.ownBlock ≠ some g := fun g h1 h2 => h.n12 g h2 h1
  have q0 := own_kset (ap_keep ha h.o0 n20) h.kb 4 v'
  have q1 := own_kset (ap_keep ha h.o1 n21) h.kb 4 v'
  have q2 := own_kset ho h.kb 4 v'
  have m0 := ap_ne ha h.o0 n20
  have m1 := ap_ne ha h.o1 n21
  refine ⟨?_, q0, q1, by simpa using q2, h.n01, fun g h1 h2 => m0 g h2 h1, fun g h1 h2 => m1 g h2 h1, h.kb, Nat.le_trans h.bw (by simpa using ha.grown.size)⟩
  obtain ⟨c0, c1, c2, c3, c4, nn, fz⟩ := hB
  exact ⟨by go_simp, by go_simp, by go_simp, by go_simp, by go_simp, fun o h1 h2 => by have := nn o h1 h2; have : ¬ o = 4 := by omega
                                                                                       go_simp, fun o => by have := fz o; go_simp⟩
end

end Go.Proofs.YtdpcmokemjfelaaGreatDoor.Kp
