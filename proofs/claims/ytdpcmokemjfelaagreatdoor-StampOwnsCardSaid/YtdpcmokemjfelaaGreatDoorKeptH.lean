/- Memory: lists of bytes that are grown beside those that are kept. -/
import Derived.Test.YtdpcmokemjfelaaGreatDoorKeptG
namespace Go.Proofs.YtdpcmokemjfelaaGreatDoor.Kp
open Go.RowKit Go.Proofs.YtdpcmokemjfelaaGreatDoor.Wd Go.Proofs.YtdpcmokemjfelaaGreatDoor.Px Go.Proofs.YtdpcmokemjfelaaGreatDoor.By Go.Proofs.YtdpcmokemjfelaaGreatDoor.Pf

/-- the rows kept and the rows grown: a grown row shares its block with its own kept row at most -/
structure Grn (B : Nat) (vs gs : List Value) (cs ds : List (List UInt8)) (W : World) : Prop where
  rv : Rws B vs cs W
  rg : Rws B gs ds W
  av : Apt vs
  ag : Apt gs
  vg : ∀ (i j : Nat) (v g : Value) (b : Nat), i ≠ j → vs[i]? = some v → gs[j]? = some g → v.ownBlock = some b → g.ownBlock ≠ some b
  sm : ∀ (i : Nat) (v g : Value) (c d : List UInt8) (b : Nat), vs[i]? = some v → gs[i]? = some g → cs[i]? = some c → ds[i]? = some d → v.ownBlock = some b → g.ownBlock = some b → c.length ≤ d.length
section
variable {B K p : Nat} {v0 v1 v2 : Value} {vs us gs : List Value} {cs ds : List (List UInt8)} {W W' : World}
theorem Grn.on (h : Grn B vs gs cs ds W) (hb : Below W.heap.size W W') : Grn B vs gs cs ds W' := ⟨h.rv.on hb, h.rg.on hb, h.av, h.ag, h.vg, h.sm⟩
theorem Grn.start (rv : Rws B vs cs W) (av : Apt vs) : Grn B vs [] cs [] W := ⟨rv, Rws.nil _ _, av, Apt.nil, fun i j v g b _ _ hg => by simp at hg, fun i v g c d b _ hg => by simp at hg⟩
theorem Grn.app (h : Grn B vs gs cs ds W) {n b : Nat} {v v' : Value} {xs : List Value} (ho : W.ownsRow b 44 1 v n xs) (ha : Ap1 v n W v' W') : Grn B vs gs cs ds W' :=
  ⟨h.rv.app ho ha, h.rg.app ho ha, h.av, h.ag, h.vg, h.sm⟩
theorem Grn.kset (h : Grn B vs gs cs ds W) (hK : K < B) (o : Nat) (u : Value) : Grn B vs gs cs ds (W.setCell ⟨K, o, none⟩ u) :=
  ⟨h.rv.kset hK o u, h.rg.kset hK o u, h.av, h.ag, h.vg, h.sm⟩
theorem get_snoc {α : Type} {l : List α} {x y : α} {i : Nat} (h : (l ++ [x])[i]? = some y) : l[i]? = some y ∧ i < l.length ∨ i = l.length ∧ y = x := by
  by_cases hi : i < l.length
  · rw [List.getElem?_append_left hi] at h
    exact .inl ⟨h, hi⟩
  · rw [List.getElem?_append_right (by omega)] at h
    have h0 := (List.getElem?_eq_some_iff.1 h).1
    simp at h0
    have h1 : i = l.length := by omega
    subst h1
    simp at h
    exact .inr ⟨rfl, h.symm⟩
/-- the next list begins to be grown -/
theorem Grn.push (h : Grn B vs gs cs ds W) {v : Value} {c : List UInt8} (hv : vs[gs.length]? = some v) (hc : cs[gs.length]? = some c) : Grn B vs (gs ++ [v]) cs (ds ++ [c]) W := by
  refine ⟨h.rv, h.rg.snoc (h.rv.own _ v c hv hc), h.av, h.ag.snoc fun i u g hu hg e => ?_, fun i j a g b hij ha hg hab hgb => ?_, fun i a g c' d b ha hg hc' hd hab hgb => ?_⟩
  · have hi : i < gs.length := (List.getElem?_eq_some_iff.1 hu).1
    exact h.vg gs.length i v u g (by omega) hv hu e hg
  · rcases get_snoc hg with ⟨h1, -⟩ | ⟨rfl, rfl⟩
    · exact h.vg i j a g b hij ha h1 hab hgb
    · exact hij (h.av i gs.length a g b ha hv hab hgb)
  · rcases get_snoc hg with ⟨h1, hlt⟩ | ⟨rfl, rfl⟩
    · rcases get_snoc hd with ⟨h2, -⟩ | ⟨e, -⟩
      · exact h.sm i a g c' d b ha h1 hc' h2 hab hgb
      · have := h.rg.len; omega
    · rcases get_snoc hd with ⟨h2, hlt⟩ | ⟨e, rfl⟩
      · have := h.rg.len; omega
      · rw [hc] at hc'
        injection hc' with hc'
        subst hc'
        exact Nat.le_refl _

theorem get_set {α : Type} {l : List α} {x y : α} {i j : Nat} (h : (l.set i x)[j]? = some y) : j ≠ i ∧ l[j]? = some y ∨ j = i ∧ y = x := by
  by_cases hij : j = i
  · subst hij
    have hlt : j < l.length := by
      have := (List.getElem?_eq_some_iff.1 h).1
      simpa using this
    rw [List.getElem?_set_self hlt] at h
    injection h with h
    exact .inr ⟨rfl, h.symm⟩
  · rw [List.getElem?_set_ne (fun e => hij e.symm)] at h
    exact .inl ⟨hij, h⟩
/-- a list is grown by one byte -/
theorem Grn.grow (h : Grn B vs gs cs ds W) {q : Nat} {g g' : Value} {d : List UInt8} {x : UInt8} (hg : gs[q]? = some g) (hd : ds[q]? = some d) (ha : Ap1 g d.length W g' W') (ho : W'.ownsRow B 5 1 g' (d.length + 1) (d.map cel ++ [cel x])) :
    Grn B vs (gs.set q g') cs (ds.set q (d ++ [x])) W' := by
  have og := h.rg.own q g d hg hd
  have ho' : W'.ownsRow B 5 1 g' (d ++ [x]).length ((d ++ [x]).map cel) := by simpa using ho
  have hb' : ∀ b, g'.ownBlock = some b → g.ownBlock = some b ∨ W.heap.size ≤ b := fun b hb => by
    rcases ha.at_ with e | e
    · exact .inl (e.symm.trans hb)
    · rw [e] at hb
      injection hb with hb
      exact .inr (by omega)
  refine ⟨⟨h.rv.len, fun i v c hv hc => ?_⟩, ⟨by simpa using h.rg.len, fun i u e hu he => ?_⟩, h.av, fun i j a b k ha1 hb1 hka hkb => ?_, fun i j v u b hij hv hu hvb hub => ?_, fun i v u c e b hv hu hc he hvb hub => ?_⟩
  · refine ha.keep _ _ _ _ _ (h.rv.own i v c hv hc) fun e => ?_
    cases hvb : v.ownBlock with
    | none => exact own_none (h.rv.own i v c hv hc) hvb
    | some b =>
      by_cases hiq : i = q
      · subst hiq
        exact h.sm i v g c d b hv hg hc hd hvb (e.symm.trans hvb)
      · exact absurd (e.symm.trans hvb) (h.vg i q v g b hiq hv hg hvb)
  · rcases get_set hu with ⟨hiq, h1⟩ | ⟨rfl, rfl⟩
    · rcases get_set he with ⟨-, h2⟩ | ⟨h2, -⟩
      · refine ha.keep _ _ _ _ _ (h.rg.own i u e h1 h2) fun e1 => ?_
        cases hub : u.ownBlock with
        | none => exact own_none (h.rg.own i u e h1 h2) hub
        | some b => exact absurd (h.ag i q u g b h1 hg hub (e1.symm.trans hub)) hiq
      · exact absurd h2 hiq
    · rcases get_set he with ⟨h2, -⟩ | ⟨-, rfl⟩
      · exact absurd rfl h2
      · exact ho'
  · rcases get_set ha1 with ⟨hi, h1⟩ | ⟨rfl, rfl⟩ <;> rcases get_set hb1 with ⟨hj, h2⟩ | ⟨rfl, rfl⟩
    · exact h.ag i j a b k h1 h2 hka hkb
    · obtain ⟨ea, hea⟩ : ∃ ea, ds[i]? = some ea := ⟨_, List.getElem?_eq_getElem (by rw [← h.rg.len]; exact (List.getElem?_eq_some_iff.1 h1).1)⟩
      rcases hb' k hkb with e | e
      · exact h.ag i j a g k h1 hg hka e
      · have := ((h.rg.own i a ea h1 hea).lt k hka).2; omega
    · obtain ⟨ea, hea⟩ : ∃ ea, ds[j]? = some ea := ⟨_, List.getElem?_eq_getElem (by rw [← h.rg.len]; exact (List.getElem?_eq_some_iff.1 h2).1)⟩
      rcases hb' k hka with e | e
      · exact (h.ag j i b g k h2 hg hkb e).symm
      · have := ((h.rg.own j b ea h2 hea).lt k hkb).2; omega
    · rfl
  · rcases get_set hu with ⟨-, h1⟩ | ⟨rfl, rfl⟩
    · exact h.vg i j v u b hij hv h1 hvb hub
    · obtain ⟨c, hc⟩ : ∃ c, cs[i]? = some c := ⟨_, List.getElem?_eq_getElem (by rw [← h.rv.len]; exact (List.getElem?_eq_some_iff.1 hv).1)⟩
      rcases hb' b hub with e | e
      · exact h.vg i j v g b hij hv hg hvb e
      · have := ((h.rv.own i v c hv hc).lt b hvb).2; omega
  · rcases get_set hu with ⟨hiq, h1⟩ | ⟨rfl, rfl⟩
    · rcases get_set he with ⟨-, h2⟩ | ⟨h2, -⟩
      · exact h.sm i v u c e b hv h1 hc h2 hvb hub
      · exact absurd h2 hiq
    · rcases get_set he with ⟨h2, -⟩ | ⟨-, rfl⟩
      · exact absurd rfl h2
      · rcases hb' b hub with e1 | e1
        · have := h.sm i v g c d b hv hg hc hd hvb e1
          simp; omega
        · have := ((h.rv.own i v c hv hc).lt b hvb).2; omega

/-- the book's rows behind an append to a row of bytes -/
theorem Cor.grew (h : Cor B K p v0 v1 v2 vs us gs W) {n : Nat} {g g' : Value} {xs : List Value} (og : W.ownsRow B 5 1 g n xs) (ha : Ap1 g n W g' W') : Cor B K p v0 v1 v2 vs us gs W' :=
  h.move ha.grown.size (ha.grown.block K h.kw (kb_ne og h.kb)) fun k cells _ hk => ha.grown.block k (by
    rcases Nat.lt_or_ge k W.heap.size with hl | hl
    · exact hl
    · rw [Array.getElem?_eq_none hl] at hk; cases hk) fun e => by
      obtain ⟨c, hc⟩ := own_type og e.symm
      exact absurd (ne_types hc hk) (by decide)
theorem FrK.grew {n : Nat} {g g' : Value} {xs : List Value} (og : W.ownsRow B 5 1 g n xs) (hK : K < B) (hBW : B ≤ W.heap.size) (ha : Ap1 g n W g' W') : FrK K W W' :=
  ⟨ha.grown.size, fun b w0 hb h0 => h0.grown ha.grown (by omega) (fun j hj => by have := (og.lt j hj).1; omega)⟩
theorem FrK.app {n : Nat} {v v' : Value} {xs : List Value} (ho : W.ownsRow B 44 1 v n xs) (hK : K < B) (hBW : B ≤ W.heap.size) (ha : Ap1 v n W v' W') : FrK K W W' :=
  ⟨ha.grown.size, fun b w0 hb h0 => h0.grown ha.grown (by omega) (fun j hj => by have := (ho.lt j hj).1; omega)⟩
/-- a store into the row of what is grown -/
theorem Cor.set2 {G m k : Nat} (h : Cor B K p v0 v1 (.slice (some ⟨G, 0, none⟩) m k) vs us gs W) (q : Nat) (x : Value) : Cor B K p v0 v1 (.slice (some ⟨G, 0, none⟩) m k) vs us (gs.set q x) (W.setCell ⟨G, q, none⟩ x) := by
  have hm : gs.length = m := by
    obtain ⟨A, c, e⟩ := own_slice h.o2
    injection e with _ e _
    exact e.symm
  have hG : B ≤ G := (h.o2.lt G rfl).1
  have mv : ∀ {v : Value} {n : Nat} {xs : List Value}, W.ownsRow B 44 1 v n xs → (∀ g, v.ownBlock = some g → g ≠ G) → (W.setCell ⟨G, q, none⟩ x).ownsRow B 44 1 v n xs := fun ho hne =>
    own_mv ho fun k hk => Below.heap_setCell W ⟨G, q, none⟩ x k (hne k hk)
  have o2 := h.o2
  rw [hm] at o2
  have o2' := (o2.stored q x).1
  refine ⟨h.bk.on (Below.heap_setCell W ⟨G, q, none⟩ x K (by have := h.kb; show K ≠ G; omega)), mv h.o0 (fun g hg e => h.n02 g hg (by rw [e]; rfl)), mv h.o1 (fun g hg e => h.n12 g hg (by rw [e]; rfl)), by rw [List.length_set, hm]; exact o2', h.n01, h.n02, h.n12, h.kb, by simpa using h.bw⟩
theorem Grn.set2 {b n m k G : Nat} {xs : List Value} (h : Grn B vs gs cs ds W) (ho : W.ownsRow b 44 1 (.slice (some ⟨G, 0, none⟩) m k) n xs) (q : Nat) (x : Value) : Grn B vs gs cs ds (W.setCell ⟨G, q, none⟩ x) := by
  have mv : ∀ {ws : List Value} {es : List (List UInt8)}, Rws B ws es W → Rws B ws es (W.setCell ⟨G, q, none⟩ x) := fun hr =>
    ⟨hr.len, fun i u c hu hc => own_mv (hr.own i u c hu hc) fun k hk => Below.heap_setCell W ⟨G, q, none⟩ x k (fun e => by
      have e' : k = G := e
      subst e'
      exact rows_ne ho (hr.own i u c hu hc) (g := k) rfl hk)⟩
  exact ⟨mv h.rv, mv h.rg, h.av, h.ag, h.vg, h.sm⟩
end

end Go.Proofs.YtdpcmokemjfelaaGreatDoor.Kp
