/- Contracts: a list of bytes is kept. -/
import Derived.Test.YtdpcmokemjfelaaGreatDoorKeptC
import Derived.Deep.RegionLaw
import Derived.RegionTactic
namespace Go.Proofs.YtdpcmokemjfelaaGreatDoor.Kp
open Go.RowKit Go.Proofs.YtdpcmokemjfelaaGreatDoor.Wd Go.Proofs.YtdpcmokemjfelaaGreatDoor.Px Go.Proofs.YtdpcmokemjfelaaGreatDoor.By Go.Proofs.YtdpcmokemjfelaaGreatDoor.Pf

/-- a book in which lists of bytes are kept, none written over yet -/
structure BkA (B K : Nat) (vs us : List Value) (cs : List (List UInt8)) (W : World) : Prop where
  co : ∃ v0 v1, Cor B K 0 v0 v1 (.slice none 0 0) vs us [] W
  rv : Rws B vs cs W
  ru : Rws B us cs W
  ap : Apt vs
theorem BkA.on {B K : Nat} {vs us : List Value} {cs : List (List UInt8)} {W W' : World} (h : BkA B K vs us cs W) (hb : Below W.heap.size W W') : BkA B K vs us cs W' := by
  obtain ⟨⟨v0, v1, hc⟩, rv, ru, ap⟩ := h
  exact ⟨⟨v0, v1, hc.on hb⟩, rv.on hb, ru.on hb, ap⟩

theorem bytes_m {l : List UInt8} {m : Nat} (hm : Hid (l.length = m)) (h9 : m ≤ 1000) (A : Option Addr) (c : Nat) (w : World) (hs : Shows cel w w.heap.size A l) :
    Calls Tryz.prog 20 #[.slice A m c] w fun e w' => ∃ Au cu, e = .returned (.slice Au m cu) ∧ w'.ownsRow w.heap.size 5 1 (.slice Au m cu) m (l.map cel) ∧ Below w.heap.size w w' := by
  have hm' := hm.out
  subst hm'
  refine (bytes_any l A c w (by omega) hs).mono ?_
  rintro e w' ⟨v, rfl, hown, hb⟩
  obtain ⟨Au, cu, rfl⟩ := own_slice hown
  exact ⟨Au, cu, rfl, hown, hb⟩

set_option maxRecDepth 20000 in
set_option maxHeartbeats 2000000 in
theorem keep_any (B K : Nat) (vs us : List Value) (cs : List (List UInt8)) (v : Value) (l : List UInt8) (w : World) (h : BkA B K vs us cs w) (hv : w.ownsRow B 5 1 v l.length (l.map cel))
    (hfr : ∀ (i : Nat) (u : Value) (g : Nat), vs[i]? = some u → u.ownBlock = some g → v.ownBlock ≠ some g) (hl : l.length ≤ 1000) (hn : vs.length ≤ 1000) :
    Calls Tryz.prog 8 #[.pointer (some ⟨K, 0, none⟩), v] w fun e w' => e = .returned (.tuple #[]) ∧ ∃ u, BkA B K (vs ++ [v]) (us ++ [u]) (cs ++ [l]) w' ∧ FrU K w w' := by
  obtain ⟨inf, hi0, hz0, hz1, hz2⟩ := info_parts Tryz.infoR
  obtain ⟨⟨v0, v1, hco⟩, rv, ru, ap⟩ := h
  have hlu : us.length = vs.length := by rw [ru.len, rv.len]
  obtain ⟨A, c, rfl⟩ := own_slice hv
  have co0 := hco.on (one w (.cells #[.slice A l.length c] 44))
  have rv0 := rv.on (one w (.cells #[.slice A l.length c] 44))
  have ru0 := ru.on (one w (.cells #[.slice A l.length c] 44))
  have hv0 := hv.alloc (.cells #[.slice A l.length c] 44)
  have fr0 := FrU.of_below (K := K) (one w (.cells #[.slice A l.length c] 44)) hco.kw
  have hk2 := hco.bk.c2
  have hBw := hco.bw
  obtain ⟨n, hnn⟩ : ∃ n, vs.length = n := ⟨_, rfl⟩
  obtain ⟨m, hm⟩ : ∃ m, l.length = m := ⟨_, rfl⟩
  rw [hm] at hv hv0 co0 rv0 ru0 fr0 hfr ⊢
  have HN := Lib.hid hnn
  have HM := Lib.hid hm
  have hn' : n ≤ 1000 := by omega
  have hm' : m ≤ 1000 := by omega
  have hus : us.length ≤ 1000 := by omega
  clear hnn hm hl hn hlu
  go_enter Tryz.func8, Tryz.ntmps8
  go_wp2_with (at_builtin; go_loud (refine wpList_append_one rfl _ _ 25 rfl B 44 inf (.slice none 0 0) 24 Tryz.underlying25 hi0 hz0 hz1 hz2 rfl v0 n vs rfl (by rw [← HN.out]; exact co0.o0) ⟨w.heap.size, 0, none⟩ 1 (.slice A m c) rfl (by go_simp) rfl (by unfold maxLen; omega) (by omega) (by simp; omega) ?_))
  intro v0' w1 ho0 ha0
  obtain ⟨g0, k0, rfl, -, -⟩ := ho0.form (by omega)
  have co1 := co0.app0 (by rw [HN.out]; exact ha0) (by rw [HN.out]; exact ho0)
  have rv1 := (rv0.app co0.o0 (by rw [HN.out]; exact ha0)).kset hco.kb 2 (.slice (some ⟨g0, 0, none⟩) (n + 1) k0)
  have ru1 := (ru0.app co0.o0 (by rw [HN.out]; exact ha0)).kset hco.kb 2 (.slice (some ⟨g0, 0, none⟩) (n + 1) k0)
  have fr1 := (fr0.trans (FrU.app co0.o0 hco.kb co0.bw (by rw [HN.out]; exact ha0))).trans (FrU.kset K w1 2 (.slice (some ⟨g0, 0, none⟩) (n + 1) k0))
  have hBk := co0.bk.on (ha0.grown.block K co0.kw (kb_ne co0.o0 co0.kb))
  have k2 := hBk.c2
  have kf := hBk.fz
  clear co0 rv0 ru0 ho0 ha0 hBk fr0 hv0
  go_upto_region 1 with fail
  have hvW : (w1.setCell ⟨K, 2, none⟩ (.slice (some ⟨g0, 0, none⟩) (n + 1) k0)).ownsRow B 5 1 (.slice A m c) m (l.map cel) := fr1.own hv hco.kb
  generalize w1.setCell ⟨K, 2, none⟩ (.slice (some ⟨g0, 0, none⟩) (n + 1) k0) = W1 at co1 rv1 ru1 fr1 hvW ⊢
  have hsW : Shows cel W1.drew W1.drew.heap.size A l := Shows.of_own (base := B) (e := 5) (c := c) (by rw [HM.out]; exact hvW.drew)
  have k3 := co1.bk.c3
  have k3d : W1.drew.cell? ⟨K, 3, none⟩ = some v1 := k3
  have coD := co1.on (Below.refl _ _).drew
  have rvD := rv1.on (Below.refl _ _).drew
  have ruD := ru1.on (Below.refl _ _).drew
  have frD := fr1.trans (FrU.of_below (Below.refl _ W1).drew co1.kw)
  have hvD := hvW.drew
  go_region_law (first
    | (go_simp; go_at_call 20; refine (bytes_m HM hm' A c W1.drew hsW).mono ?_; rintro e w3 ⟨Au, cu, rfl, hu, hb3⟩; have co3 := coD.on hb3; have k3c := co3.bk.c3; have k3e := (co3.on (one w3 (.cells #[.slice Au m cu] 44))).bk.c3; have rv3 := (rvD.on hb3).snoc (c := l) (by rw [HM.out]; exact own_on hvD hb3); have ru3 := (ruD.on hb3).snoc (c := l) (by rw [HM.out]; exact own_base hu coD.bw); have fr3 := frD.trans (FrU.of_below hb3 coD.kw))
    | (go_loud (refine step_append_one rfl _ _ 25 rfl B 44 inf (.slice none 0 0) 24 Tryz.underlying25 hi0 hz0 hz1 hz2 rfl v1 us.length us rfl ((co3.on (one w3 _)).o1) ⟨w3.heap.size, 0, none⟩ 1 (.slice Au m cu) rfl (by go_simp) rfl (by unfold maxLen; omega) (by omega) (by simp; have := co3.bw; omega) ?_); intro v1' w4 ho1 ha1; obtain ⟨g1, k1, rfl, -, -⟩ := ho1.form (by omega); have co4 := co3.on (one w3 (.cells #[.slice Au m cu] 44)); have hB4 := co4.bk.on (ha1.grown.block K co4.kw (kb_ne co4.o1 co4.kb)); have k43 := hB4.c3; have k4f := hB4.fz))
  all_goals
    have cF := co4.app1 ha1 ho1
    have rvF := ((rv3.on (one w3 (.cells #[.slice Au m cu] 44))).app co4.o1 ha1).kset hco.kb 3 (.slice (some ⟨g1, 0, none⟩) (us.length + 1) k1)
    have ruF := ((ru3.on (one w3 (.cells #[.slice Au m cu] 44))).app co4.o1 ha1).kset hco.kb 3 (.slice (some ⟨g1, 0, none⟩) (us.length + 1) k1)
    have frF := ((fr3.trans (FrU.of_below (one w3 (.cells #[.slice Au m cu] 44)) co3.kw)).trans (FrU.app co4.o1 hco.kb co4.bw ha1)).trans (FrU.kset K w4 3 (.slice (some ⟨g1, 0, none⟩) (us.length + 1) k1))
    clear co4 hB4 k43 k4f ha1 ho1 co3 k3c k3e rv3 ru3 fr3 hb3 hu hvD frD ruD rvD coD k3d k3 hsW hvW fr1 ru1 rv1 co1 k2 kf hv hco rv ru
    go_wp2
    go_end0
    exact ⟨rfl, .slice Au m cu, ⟨⟨_, _, cF⟩, rvF, ruF, ap.snoc hfr⟩, frF⟩

end Go.Proofs.YtdpcmokemjfelaaGreatDoor.Kp
