/- Contracts: a book is grown; it is finished. -/
import Derived.Test.YtdpcmokemjfelaaGreatDoorKeptI
namespace Go.Proofs.YtdpcmokemjfelaaGreatDoor.Kp
open Go.RowKit Go.Proofs.YtdpcmokemjfelaaGreatDoor.Wd Go.Proofs.YtdpcmokemjfelaaGreatDoor.Px Go.Proofs.YtdpcmokemjfelaaGreatDoor.By Go.Proofs.YtdpcmokemjfelaaGreatDoor.Pf

theorem bgrow_any (B K p t : Nat) (vs : List Value) (cs : List (List UInt8)) (gs : List Value) (ds : List (List UInt8)) (w : World) (hco : ∃ v0 v1 v2 us, Cor B K p v0 v1 v2 vs us gs w) (hG : Grn B vs gs cs ds w) (hGr : Gr p cs 0 t ds) (htm : t ≤ 100) (hp : p ≤ 1) (hl : ∀ c ∈ cs, c.length ≤ 800) (hm : ∀ (i : Nat) (c : List UInt8), cs[i]? = some c → c = marks p (i + 1) c.length) (hn : vs.length ≤ 900) :
    Calls Tryz.prog 64 #[.pointer (some ⟨K, 0, none⟩), .int .i64 0, .int .i64 (t : Int)] w fun e w' => e = .returned (.int .i64 (vs.length : Int)) ∧ ∃ gs ds, (∃ v0 v1 v2 us, Cor B K p v0 v1 v2 vs us gs w') ∧ Grn B vs gs cs ds w' ∧ Gr p cs 0 (t + 1) ds ∧ FrK K w w' := by
  have hlen : vs.length = cs.length := hG.rv.len
  by_cases ht : t = 0
  · subst ht
    refine (bgrow_0 B K p vs cs gs ds w hco hG hGr hp hl hm hn).mono ?_
    rintro e w' ⟨rfl, gs, ds, h1, h2, h3, h4⟩
    exact ⟨rfl, gs, ds, h1, h2, by rw [hlen] at h3; exact h3.turn, h4⟩
  · refine (bgrow_1 B K p t vs cs gs ds w hco hG hGr ht htm hp hl hm hn).mono ?_
    rintro e w' ⟨rfl, gs, ds, h1, h2, h3, h4⟩
    exact ⟨rfl, gs, ds, h1, h2, by rw [hlen] at h3; exact h3.turn, h4⟩

set_option maxRecDepth 20000 in
set_option maxHeartbeats 4000000 in
theorem grow_any (B K p : Nat) (vs : List Value) (cs : List (List UInt8)) (w : World) (h : BkC B K p vs cs w) (hp : p ≤ 1) (hl : ∀ c ∈ cs, c.length ≤ 800) (hm : ∀ (i : Nat) (c : List UInt8), cs[i]? = some c → c = marks p (i + 1) c.length) (hn : vs.length ≤ 900) :
    Calls Tryz.prog 24 #[.pointer (some ⟨K, 0, none⟩)] w fun e w' => e = .returned (.tuple #[]) ∧ ∃ gs ds, (∃ v0 v1 v2 us, Cor B K p v0 v1 v2 vs us gs w') ∧ Grn B vs gs cs ds w' ∧ Gr p cs 0 70 ds ∧ FrK K w w' := by
  have h0 : (∃ v0 v1 v2 us, Cor B K p v0 v1 v2 vs us [] w) ∧ Grn B vs [] cs [] w := by
    obtain ⟨⟨v0, v1, us, hco⟩, rv, ap⟩ := h
    exact ⟨⟨v0, v1, _, us, hco⟩, Grn.start rv ap⟩
  clear h
  go_enter Tryz.func24, Tryz.ntmps24
  go_wp2
  go_loopw [2] (fun t wr => ∃ (q : Nat) (gs : List Value) (ds : List (List UInt8)), q ≤ 70 ∧ t = .int .i64 (q : Int) ∧ Hid (∃ v0 v1 v2 us, Cor B K p v0 v1 v2 vs us gs wr) ∧ Hid (Grn B vs gs cs ds wr) ∧ Hid (Gr p cs 0 q ds) ∧ Hid (FrK K w wr)) (fun t _ => 70 - (intOf t).toNat)
  case atStart => exact ⟨0, [], [], Nat.zero_le _, rfl, Lib.hid h0.1, Lib.hid h0.2, Lib.hid (Gr.start p cs), Lib.hid (FrK.refl _ _)⟩
  case round =>
    clear h0
    obtain ⟨q, gs, ds, hq, rfl, HCO, HG, HGR, HF⟩ := hrel
    by_cases hlt : q < 70
    · have i1 : (q : Int) < 70 := by omega
      have hb := Lib.hid (bgrow_any B K p q vs cs gs ds wr HCO.out HG.out HGR.out (by omega) hp hl hm hn)
      have c0 : wr.cell? ⟨K, 0, none⟩ = some (.int .i64 0) := by obtain ⟨v0, v1, v2, us, hco⟩ := HCO.out; exact hco.bk.c0
      go_wp2_with fail
      refine hb.out.mono ?_
      rintro e w1 ⟨rfl, gs, ds, h1, h2, h3, h4⟩
      have nnB : ∀ o, 5 ≤ o → o < 53 → w1.cell? ⟨K, o, none⟩ = some (.slice none 0 0) := by obtain ⟨v0, v1, v2, us, hco⟩ := h1; exact hco.bk.nn
      have HCO := Lib.hid h1
      have HG := Lib.hid h2
      have HGR := Lib.hid h3
      have HF := Lib.hid (HF.out.trans h4)
      have n_bools := nnB 5 (by omega) (by omega)
      have n_ints := nnB 8 (by omega) (by omega)
      have n_texts := nnB 11 (by omega) (by omega)
      have n_byteLists := nnB 14 (by omega) (by omega)
      have n_prefixes := nnB 17 (by omega) (by omega)
      have n_openings := nnB 20 (by omega) (by omega)
      have n_peers := nnB 23 (by omega) (by omega)
      have n_lanes := nnB 26 (by omega) (by omega)
      have n_rows := nnB 29 (by omega) (by omega)
      have n_sets := nnB 32 (by omega) (by omega)
      have n_pendings := nnB 35 (by omega) (by omega)
      have n_changes := nnB 38 (by omega) (by omega)
      have n_faults := nnB 41 (by omega) (by omega)
      have n_flights := nnB 44 (by omega) (by omega)
      have n_ops := nnB 47 (by omega) (by omega)
      have n_events := nnB 50 (by omega) (by omega)
      clear h1 h2 h3 h4 nnB hb c0
      generalize (vs.length : Int) = n
      go_wp2_with fail
      refine (boolsGrow_0 K n (q : Int) _ n_bools).mono ?_
      rintro e w1 ⟨rfl, rfl⟩
      go_wp2_with fail
      refine (intsGrow_0 K n (q : Int) _ n_ints).mono ?_
      rintro e w1 ⟨rfl, rfl⟩
      go_wp2_with fail
      refine (textsGrow_0 K n (q : Int) _ n_texts).mono ?_
      rintro e w1 ⟨rfl, rfl⟩
      go_wp2_with fail
      refine (byteListsGrow_0 K n (q : Int) _ n_byteLists).mono ?_
      rintro e w1 ⟨rfl, rfl⟩
      go_wp2_with fail
      refine (prefixesGrow_0 K n (q : Int) _ n_prefixes).mono ?_
      rintro e w1 ⟨rfl, rfl⟩
      go_wp2_with fail
      refine (openingsGrow_0 K n (q : Int) _ n_openings).mono ?_
      rintro e w1 ⟨rfl, rfl⟩
      go_wp2_with fail
      refine (peersGrow_0 K n (q : Int) _ n_peers).mono ?_
      rintro e w1 ⟨rfl, rfl⟩
      go_wp2_with fail
      refine (lanesGrow_0 K n (q : Int) _ n_lanes).mono ?_
      rintro e w1 ⟨rfl, rfl⟩
      go_wp2_with fail
      refine (rowsGrow_0 K n (q : Int) _ n_rows).mono ?_
      rintro e w1 ⟨rfl, rfl⟩
      go_wp2_with fail
      refine (setsGrow_0 K n (q : Int) _ n_sets).mono ?_
      rintro e w1 ⟨rfl, rfl⟩
      go_wp2_with fail
      refine (pendingsGrow_0 K n (q : Int) _ n_pendings).mono ?_
      rintro e w1 ⟨rfl, rfl⟩
      go_wp2_with fail
      refine (changesGrow_0 K n (q : Int) _ n_changes).mono ?_
      rintro e w1 ⟨rfl, rfl⟩
      go_wp2_with fail
      refine (faultsGrow_0 K n (q : Int) _ n_faults).mono ?_
      rintro e w1 ⟨rfl, rfl⟩
      go_wp2_with fail
      refine (flightsGrow_0 K n (q : Int) _ n_flights).mono ?_
      rintro e w1 ⟨rfl, rfl⟩
      go_wp2_with fail
      refine (opsGrow_0 K n (q : Int) _ n_ops).mono ?_
      rintro e w1 ⟨rfl, rfl⟩
      go_wp2_with fail
      refine (eventsGrow_0 K n (q : Int) _ n_events).mono ?_
      rintro e w1 ⟨rfl, rfl⟩
      go_wp2
      go_roundw
      case rel => exact ⟨q + 1, gs, ds, by omega, by go_num, HCO, HG, HGR, HF⟩
      case measure => simp [intOf]; omega
    · obtain rfl : q = 70 := by omega
      go_wp2
      go_end0
      exact ⟨rfl, gs, ds, HCO.out, HG.out, HGR.out, HF.out⟩

/-- a finished book: each list, and what it was grown to, shows its own marks -/
structure BkF (B K : Nat) (vs : List Value) (W : World) : Prop where
  ex : ∃ v0 v1 v2 us gs, Cor B K 1 v0 v1 v2 vs us gs W ∧ Shm 1 gs W
  sv : Shm 1 vs W
theorem BkF.on {B K : Nat} {vs : List Value} {W W' : World} (h : BkF B K vs W) (hb : Below W.heap.size W W') : BkF B K vs W' := by
  obtain ⟨⟨v0, v1, v2, us, gs, hc, hg⟩, sv⟩ := h
  exact ⟨⟨v0, v1, v2, us, gs, hc.on hb, hg.on hb⟩, sv.on hb⟩
theorem holds_done {B K : Nat} {vs : List Value} (w : World) (h : BkF B K vs w) (hn : vs.length ≤ 900) :
    Calls Tryz.prog 23 #[.pointer (some ⟨K, 0, none⟩)] w fun e w' => e = .returned (.bool true) ∧ w' = w := by
  obtain ⟨⟨v0, v1, v2, us, gs, hc, hg⟩, sv⟩ := h
  exact holds_any B K 1 v0 v1 v2 vs us gs w hc (by omega) sv hg hn
theorem Cor.pass {B K p : Nat} {v0 v1 v2 : Value} {vs us gs : List Value} {W : World} (h : Cor B K p v0 v1 v2 vs us gs W) : Cor B K 1 v0 v1 v2 vs us gs (W.setCell ⟨K, 1, none⟩ (.int .i64 1)) := by
  refine ⟨?_, own_kset h.o0 h.kb 1 _, own_kset h.o1 h.kb 1 _, own_kset h.o2 h.kb 1 _, h.n01, h.n02, h.n12, h.kb, by simpa using h.bw⟩
  obtain ⟨c0, c1, c2, c3, c4, nn, fz⟩ := h.bk
  exact ⟨by go_simp, by go_simp, by go_simp, by go_simp, by go_simp, fun o h1 h2 => by have := nn o h1 h2; have : ¬ o = 1 := by omega
                                                                                       go_simp, fun o => by have := fz o; go_simp⟩
theorem BkC.pass {B K p : Nat} {vs : List Value} {cs : List (List UInt8)} {W : World} (h : BkC B K p vs cs W) : BkC B K 1 vs cs (W.setCell ⟨K, 1, none⟩ (.int .i64 1)) := by
  obtain ⟨⟨v0, v1, us, hc⟩, rv, ap⟩ := h
  exact ⟨⟨v0, v1, us, hc.pass⟩, rv.kset hc.kb 1 _, ap⟩
theorem Wn.lens {p n : Nat} {cs ds : List (List UInt8)} (h : Wn p cs n 0 ds) {M : Nat} (hl : ∀ c ∈ cs, c.length ≤ M) : ∀ d ∈ ds, d.length ≤ M := fun d hd => by
  obtain ⟨i, hi⟩ := List.mem_iff_getElem?.1 hd
  obtain ⟨c, hc⟩ : ∃ c, cs[i]? = some c := ⟨_, List.getElem?_eq_getElem (by rw [← h.1]; exact (List.getElem?_eq_some_iff.1 hi).1)⟩
  obtain ⟨d', h1, h2, -⟩ := h.2 i c hc
  rw [hi] at h1
  injection h1 with h1
  subst h1
  rw [h2]
  exact hl c (List.mem_of_getElem? hc)
theorem Wn.marked {p n : Nat} {cs ds : List (List UInt8)} (h : Wn p cs n 0 ds) (hn : cs.length = n) : ∀ (i : Nat) (d : List UInt8), ds[i]? = some d → d = marks p (i + 1) d.length := fun i d hi => by
  have hlt := (List.getElem?_eq_some_iff.1 hi).1
  obtain ⟨c, hc⟩ : ∃ c, cs[i]? = some c := ⟨_, List.getElem?_eq_getElem (by rw [← h.1]; exact hlt)⟩
  obtain ⟨d', h1, h2, h3, -⟩ := h.2 i c hc
  rw [hi] at h1
  injection h1 with h1
  subst h1
  have := h3 (by rw [← hn, ← h.1]; exact hlt)
  rw [h2]
  exact this
theorem Shm.nil (p : Nat) (W : World) : Shm p [] W := fun q v hv => by simp at hv
theorem Shm.grown {B p : Nat} {vs gs : List Value} {cs ds : List (List UInt8)} {W : World} (h : Grn B vs gs cs ds W) (hg : Gr p cs 0 70 ds) (hl : ∀ c ∈ cs, c.length ≤ 800) : Shm p gs W := fun q v hv => by
  have hq : q < gs.length := (List.getElem?_eq_some_iff.1 hv).1
  obtain ⟨d, hd⟩ : ∃ d, ds[q]? = some d := ⟨_, List.getElem?_eq_getElem (by rw [← h.rg.len]; exact hq)⟩
  obtain ⟨c, hc, e⟩ := hg.2 q d hd
  rw [if_neg (by omega)] at e
  have ho := h.rg.own q v d hv hd
  obtain ⟨A, k, rfl⟩ := own_slice ho
  have hs : Shows cel W W.heap.size A d := Shows.of_own (base := B) (e := 5) ho
  have hdl : d.length = c.length + 70 := by rw [e, marks_len]
  refine ⟨A, d.length, k, rfl, by have := hl c (List.mem_of_getElem? hc); omega, ?_⟩
  rw [hdl, ← e]
  exact hs
theorem Shm.all {B p : Nat} {vs : List Value} {cs : List (List UInt8)} {W : World} (h : Rws B vs cs W) (hm : ∀ (i : Nat) (c : List UInt8), cs[i]? = some c → c = marks p (i + 1) c.length) (hl : ∀ c ∈ cs, c.length ≤ 800) : Shm p vs W := fun q v hv => by
  have hq : q < vs.length := (List.getElem?_eq_some_iff.1 hv).1
  obtain ⟨c, hc⟩ : ∃ c, cs[q]? = some c := ⟨_, List.getElem?_eq_getElem (by rw [← h.len]; exact hq)⟩
  have ho := h.own q v c hv hc
  obtain ⟨A, k, rfl⟩ := own_slice ho
  have hs : Shows cel W W.heap.size A c := Shows.of_own (base := B) (e := 5) ho
  refine ⟨A, c.length, k, rfl, by have := hl c (List.mem_of_getElem? hc); omega, ?_⟩
  rw [← hm q c hc]
  exact hs

set_option maxRecDepth 20000 in
set_option maxHeartbeats 4000000 in
theorem finish_any (B K : Nat) (vs us : List Value) (cs : List (List UInt8)) (w : World) (h : BkA B K vs us cs w) (hl : ∀ c ∈ cs, c.length ≤ 800) (hn : vs.length ≤ 900) :
    Calls Tryz.prog 9 #[.pointer (some ⟨K, 0, none⟩)] w fun e w' => e = .returned (.bool true) ∧ BkF B K vs w' ∧ FrK K w w' := by
  have hcl : cs.length = vs.length := h.rv.len.symm
  have hK : K < w.heap.size := by obtain ⟨⟨v0, v1, hco⟩, -, -, -⟩ := h; exact hco.kw
  go_enter Tryz.func9, Tryz.ntmps9
  go_wp2_with fail
  refine (untouched_any B K vs us cs w h (fun c hc => Nat.le_trans (hl c hc) (by omega)) (by omega)).mono ?_
  rintro e w1 ⟨rfl, hb1⟩
  have hC : BkC B K 0 vs cs w1 := by
    obtain ⟨⟨v0, v1, hco⟩, rv, ru, ap⟩ := h.on hb1
    exact ⟨⟨v0, v1, us, hco⟩, rv, ap⟩
  have f1 := FrK.of_below hb1 hK
  clear h hb1 hK
  go_wp2_with fail
  refine (write_any B K 0 vs cs w1 hC (by omega) (fun c hc => Nat.le_trans (hl c hc) (by omega)) hn).mono ?_
  rintro e w2 ⟨rfl, d1, hC1, hW1, f2⟩
  have f12 := f1.trans f2
  clear hC f1 f2
  have s1 : Shm 0 vs w2 := Shm.of hC1.rv hW1 (fun c hc => Nat.le_trans (hl c hc) (by omega))
  have hh1 : Calls Tryz.prog 23 #[.pointer (some ⟨K, 0, none⟩)] w2 fun e w' => e = .returned (.bool true) ∧ w' = w2 := by
    obtain ⟨⟨v0, v1, us, hco⟩, -, -⟩ := hC1
    exact holds_any B K 0 v0 v1 _ vs us [] w2 hco (by omega) s1 (Shm.nil _ _) hn
  have HH1 := Lib.hid hh1
  have k1 : w2.cell? ⟨K, 1, none⟩ = some (.int .i64 0) := by obtain ⟨⟨v0, v1, us, hco⟩, -, -⟩ := hC1; exact hco.bk.c1
  have kf : ∀ o, w2.frozen? ⟨K, o, none⟩ = false := by obtain ⟨⟨v0, v1, us, hco⟩, -, -⟩ := hC1; exact hco.bk.fz
  clear hh1 s1
  go_wp2_with fail
  refine HH1.out.mono ?_
  rintro e w3 ⟨rfl, rfl⟩
  have hC2 := hC1.pass
  have l1 := hW1.lens hl
  have n1 : d1.length = vs.length := by rw [hW1.1, hcl]
  have f3 := f12.set (Nat.le_refl K) 1 (.int .i64 1)
  have hw2 := Lib.hid (write_any B K 1 vs d1 _ hC2 (by omega) (fun c hc => Nat.le_trans (l1 c hc) (by omega)) hn)
  clear hC1 hC2 hW1 f12 HH1
  go_wp2_with fail
  refine hw2.out.mono ?_
  rintro e w4 ⟨rfl, d2, hC3, hW2, f4⟩
  have f5 := f3.trans f4
  clear f3 f4 hw2 k1 kf
  have m2 := hW2.marked n1
  have l2 := hW2.lens l1
  have s2 : Shm 1 vs w4 := Shm.all hC3.rv m2 l2
  have hh2 : Calls Tryz.prog 23 #[.pointer (some ⟨K, 0, none⟩)] w4 fun e w' => e = .returned (.bool true) ∧ w' = w4 := by
    obtain ⟨⟨v0, v1, us, hco⟩, -, -⟩ := hC3
    exact holds_any B K 1 v0 v1 _ vs us [] w4 hco (by omega) s2 (Shm.nil _ _) hn
  have HH2 := Lib.hid hh2
  clear hh2 s2 hW2
  go_wp2_with fail
  refine HH2.out.mono ?_
  rintro e w5 ⟨rfl, rfl⟩
  go_wp2_with fail
  refine (grow_any B K 1 vs d2 _ hC3 (by omega) l2 m2 hn).mono ?_
  rintro e w6 ⟨rfl, gs, ds, hco, hG, hGr, f6⟩
  have hF : BkF B K vs w6 := by
    obtain ⟨v0, v1, v2, us, hco⟩ := hco
    exact ⟨⟨v0, v1, v2, us, gs, hco, Shm.grown hG hGr l2⟩, Shm.all hG.rv m2 l2⟩
  have f7 := f5.trans f6
  clear hco hG hGr f5 f6 hC3 HH2
  go_wp2_with fail
  refine (holds_done w6 hF hn).mono ?_
  rintro e w7 ⟨rfl, rfl⟩
  go_wp2
  go_ret
  exact ⟨rfl, hF, f7⟩

end Go.Proofs.YtdpcmokemjfelaaGreatDoor.Kp
