/- Contract: each kept list is grown by one more element. -/
import Derived.Test.YtdpcmokemjfelaaGreatDoorKeptH
import Derived.Deep.RegionLaw
import Derived.RegionTactic
namespace Go.Proofs.YtdpcmokemjfelaaGreatDoor.Kp
open Go.RowKit Go.Proofs.YtdpcmokemjfelaaGreatDoor.Wd Go.Proofs.YtdpcmokemjfelaaGreatDoor.Px Go.Proofs.YtdpcmokemjfelaaGreatDoor.By Go.Proofs.YtdpcmokemjfelaaGreatDoor.Pf

/-- the grown lists: of those ahead of q one element more -/
def Gr (p : Nat) (cs : List (List UInt8)) (q t : Nat) (ds : List (List UInt8)) : Prop :=
  ds.length = (if t = 0 then q else cs.length) ∧ ∀ (i : Nat) (d : List UInt8), ds[i]? = some d → ∃ c, cs[i]? = some c ∧ d = marks p (i + 1) (c.length + (if i < q then t + 1 else t))
theorem Gr.start (p : Nat) (cs : List (List UInt8)) : Gr p cs 0 0 [] := ⟨rfl, fun i d hd => by simp at hd⟩
theorem Gr.turn {p t : Nat} {cs ds : List (List UInt8)} (h : Gr p cs cs.length t ds) : Gr p cs 0 (t + 1) ds := by
  refine ⟨?_, fun i d hd => ?_⟩
  · rw [h.1, if_neg (show ¬ t + 1 = 0 by omega)]
    split <;> rfl
  · obtain ⟨c, hc, e⟩ := h.2 i d hd
    have hi : i < cs.length := (List.getElem?_eq_some_iff.1 hc).1
    rw [if_pos hi] at e
    exact ⟨c, hc, by rw [if_neg (by omega)]; exact e⟩
/-- of the first turn: the next list is laid beside -/
theorem Gr.push {p q : Nat} {cs ds : List (List UInt8)} {c : List UInt8} (h : Gr p cs q 0 ds) (hc : cs[q]? = some c) (hm : c = marks p (q + 1) c.length) : (ds ++ [c]).length = q + 1 ∧ ∀ (i : Nat) (d : List UInt8), (ds ++ [c])[i]? = some d → ∃ c, cs[i]? = some c ∧ d = marks p (i + 1) (c.length + (if i < q then 1 else 0)) := by
  have hl : ds.length = q := by have := h.1; simpa using this
  refine ⟨by simp [hl], fun i d hd => ?_⟩
  rcases get_snoc hd with ⟨h1, hi⟩ | ⟨rfl, rfl⟩
  · obtain ⟨e, he, hx⟩ := h.2 i d h1
    exact ⟨e, he, by simpa using hx⟩
  · rw [hl]
    exact ⟨d, hc, by rw [if_neg (by omega), Nat.add_zero]; exact hm⟩
theorem gr_step {p q t : Nat} {cs ds : List (List UInt8)} (hl : q < ds.length) (hlen : ds.length = (if t = 0 then q + 1 else cs.length)) (h : ∀ (i : Nat) (d : List UInt8), ds[i]? = some d → ∃ c, cs[i]? = some c ∧ d = marks p (i + 1) (c.length + (if i < q then t + 1 else t))) {d : List UInt8} (hd : ds[q]? = some d) :
    Gr p cs (q + 1) t (ds.set q (d ++ [bmk p (q + 1) d.length])) := by
  refine ⟨by rw [List.length_set]; exact hlen, fun i e he => ?_⟩
  rcases get_set he with ⟨hi, h1⟩ | ⟨rfl, rfl⟩
  · obtain ⟨c, hc, hx⟩ := h i e h1
    refine ⟨c, hc, ?_⟩
    rw [hx]
    by_cases hiq : i < q
    · rw [if_pos hiq, if_pos (by omega)]
    · rw [if_neg hiq, if_neg (by omega)]
  · obtain ⟨c, hc, hx⟩ := h i d hd
    rw [if_neg (by omega)] at hx
    refine ⟨c, hc, ?_⟩
    have hdl : d.length = c.length + t := by rw [hx, marks_len]
    rw [if_pos (by omega), ← Nat.add_assoc, marks_succ, ← hx, hdl]

theorem own_any {B n : Nat} {e : TypeId} {W : World} {v : Value} {xs : List Value} (h : W.ownsRow B e 1 v n xs) : ∃ A c, v = .slice A n c ∧ W.ownsRow B e 1 (.slice A n c) n xs := by
  obtain ⟨A, c, rfl⟩ := own_slice h
  exact ⟨A, c, rfl, h⟩

set_option maxRecDepth 20000 in
set_option maxHeartbeats 8000000 in
theorem bgrow_1 (B K p t : Nat) (vs : List Value) (cs : List (List UInt8)) (gs : List Value) (ds : List (List UInt8)) (w : World) (hco : ∃ v0 v1 v2 us, Cor B K p v0 v1 v2 vs us gs w) (hG : Grn B vs gs cs ds w) (hGr : Gr p cs 0 t ds) (ht : t ≠ 0) (htm : t ≤ 100) (hp : p ≤ 1) (hl : ∀ c ∈ cs, c.length ≤ 800) (_hm : ∀ (i : Nat) (c : List UInt8), cs[i]? = some c → c = marks p (i + 1) c.length) (hn : vs.length ≤ 900) :
    Calls Tryz.prog 64 #[.pointer (some ⟨K, 0, none⟩), .int .i64 0, .int .i64 (t : Int)] w fun e w' => e = .returned (.int .i64 (vs.length : Int)) ∧ ∃ gs ds, (∃ v0 v1 v2 us, Cor B K p v0 v1 v2 vs us gs w') ∧ Grn B vs gs cs ds w' ∧ Gr p cs vs.length t ds ∧ FrK K w w' := by
  obtain ⟨inf, hi0, hz0, hz1, hz2⟩ := info_parts Tryz.infoR
  obtain ⟨inb, bi0, bz0, bz1, bz2⟩ := info_parts Tryz.infoB
  obtain ⟨n, hnn⟩ : ∃ n, vs.length = n := ⟨_, rfl⟩
  have hlc : cs.length = n := by rw [← hG.rv.len, hnn]
  rw [hnn] at hn ⊢
  have HN := Lib.hid hnn
  have HC := Lib.hid hlc
  clear hnn hlc
  have it : ((t : Int) == 0) = false := by rw [beq_eq_false_iff_ne]; omega
  go_enter Tryz.func64, Tryz.ntmps64
  go_wp2
  go_loopw [1, 7] (fun id i wr => ∃ (q : Nat) (gs : List Value) (ds : List (List UInt8)), q ≤ n ∧ id = .int .i64 (q : Int) ∧ i = .int .i64 (q : Int) ∧ Hid (∃ v0 v1 v2 us, Cor B K p v0 v1 v2 vs us gs wr) ∧ Hid (Grn B vs gs cs ds wr) ∧ Hid (Gr p cs q t ds) ∧ Hid (FrK K w wr)) (fun _ i _ => n - (intOf i).toNat)
  case atStart => exact ⟨0, gs, ds, Nat.zero_le _, rfl, rfl, Lib.hid hco, Lib.hid hG, Lib.hid hGr, Lib.hid (FrK.refl _ _)⟩
  case round =>
    clear hco hG hGr
    obtain ⟨q, gs, ds, hq, rfl, rfl, HCO, HG, HGR, HF⟩ := hrel
    obtain ⟨v0, v1, v2, us, hco⟩ := HCO.out
    have o0 := hco.o0
    rw [HN.out] at o0
    obtain ⟨A0, k0, rfl, -⟩ := own_any o0
    have c2 := hco.bk.c2
    by_cases hlt : q < n
    · have i1 : (q : Int) < (n : Int) := by omega
      have iw : IntKind.i64.wrap ((q : Int) + 1) = ((q + 1 : Nat) : Int) := by rw [IntWalk.i64_in _ ⟨by omega, by omega⟩]; simp
      obtain ⟨c, hc0⟩ : ∃ c, cs[q]? = some c := ⟨_, List.getElem?_eq_getElem (by rw [HC.out]; exact hlt)⟩
      have hc9 := hl c (List.mem_of_getElem? hc0)
      have hql : q < ds.length := by have := HGR.out.1; rw [if_neg ht] at this; rw [this, HC.out]; exact hlt
      have hlen : ds.length = (if t = 0 then q + 1 else cs.length) := by have := HGR.out.1; rw [if_neg ht] at this ⊢; exact this
      have hall := HGR.out.2
      obtain ⟨d, hd0⟩ : ∃ d, ds[q]? = some d := ⟨_, List.getElem?_eq_getElem hql⟩
      have hdl : d.length = c.length + t := by
        obtain ⟨c', hc', e⟩ := hall q d hd0
        rw [hc0] at hc'
        injection hc' with hc'
        subst hc'
        rw [e, marks_len, if_neg (by omega)]
      have hst := gr_step hql hlen hall hd0
      obtain ⟨m2, hm2⟩ : ∃ m, gs.length = m := ⟨_, rfl⟩
      have hqm : q < m2 := by rw [← hm2, HG.out.rg.len]; exact hql
      have iqm : (q : Int) < (m2 : Int) := by omega
      have o2 := hco.o2
      rw [hm2] at o2
      obtain ⟨G, kG, y0, rfl, hy0, cy0, o2⟩ := own_at o2 hm2 q hqm
      have oy := HG.out.rg.own q y0 d hy0 hd0
      obtain ⟨my, hmy⟩ : ∃ m, d.length = m := ⟨_, rfl⟩
      rw [hmy] at oy hst hdl
      obtain ⟨Ay, ky, rfl, -⟩ := own_any oy
      have hmy9 : my ≤ 950 := by omega
      obtain ⟨x, hx⟩ : ∃ x, bmk p (q + 1) my = x := ⟨_, rfl⟩
      obtain ⟨y, hy⟩ : ∃ y, x.toNat = y := ⟨_, rfl⟩
      have hcel : cel x = .int .u8 (y : Int) := by unfold cel; rw [hy]
      rw [hx] at hst
      have HX := Lib.hid hx
      have HY := Lib.hid hy
      have c4 := hco.bk.c4
      have c1 := hco.bk.c1
      have HMY := Lib.hid hmy
      have HST := Lib.hid hst
      have HCEL := Lib.hid hcel
      have coA := hco.on (one wr (.cells #[.int .u8 (y : Int)] 5)).drew
      have gA := HG.out.on (one wr (.cells #[.int .u8 (y : Int)] 5)).drew
      have fA := HF.out.trans (FrK.of_below (one wr (.cells #[.int .u8 (y : Int)] 5)).drew hco.kw)
      have oA := gA.rg.own q (.slice Ay my ky) d hy0 hd0
      rw [hmy] at oA
      have c4a := coA.bk.c4
      have bA := coA.bw
      have o2A := coA.o2
      rw [hm2] at o2A
      have cyA := (o2A.cellAt q (by omega)).trans hy0
      have HM2 := Lib.hid hm2
      clear hx hy hmy hst hcel hdl hlen hall oy o2 hm2
      go_wp2_with fail
      refine (bytemark_as (id := q + 1) HX HY _ c1 hp (by omega) (by omega) (Lib.hid (by simp))).mono ?_
      rintro e w3 ⟨rfl, rfl⟩
      go_upto_region 8 with fail
      go_region_law (first
        | (refine step_append_one rfl (.tmp 60) (.tmp 62) 44 rfl B 5 inb (.int .u8 0) 1 Tryz.underlying44 bi0 bz0 bz1 bz2 rfl (.slice Ay my ky) my (d.map cel) rfl oA ⟨w3.heap.size, 0, none⟩ 1 (.int .u8 (y : Int)) rfl (by go_simp) rfl (by unfold maxLen; omega) (by omega) bA ?_; intro v' w4 ho ha; obtain ⟨g', k', rfl, -, -⟩ := ho.form (by omega); have co4 := coA.grew oA ha; have k44 := co4.bk.c4; have o24 := co4.o2; rw [HM2.out] at o24; have cz := (o24.cellAt q (by omega)).trans hy0; have czf := o24.frozenAt))
      all_goals
        have gB := gA.grow (x := x) hy0 hd0 (by rw [HMY.out]; exact ha) (by rw [HMY.out, HCEL.out]; exact ho)
        have coB := co4.set2 q (.slice (some ⟨g', 0, none⟩) (my + 1) k')
        have gC := gB.set2 o24 q (.slice (some ⟨g', 0, none⟩) (my + 1) k')
        have fB := (fA.trans (FrK.grew oA coA.kb coA.bw ha)).set (g := G) (by have := (o24.lt G rfl).1; have := coA.kb; omega) q (.slice (some ⟨g', 0, none⟩) (my + 1) k')
        clear gB co4 k44 cz czf ho ha c4a cyA
        go_wp2
        go_roundw
        case rel => exact ⟨q + 1, _, _, by omega, by go_num, by go_num, Lib.hid ⟨_, _, _, _, coB⟩, Lib.hid gC, HST, Lib.hid fB⟩
        case measure => simp [intOf]; omega
    · obtain rfl : q = n := by omega
      have i1 : ¬ (q : Int) < (q : Int) := by omega
      clear hco o0
      go_wp2
      go_ret
      exact ⟨rfl, gs, HCO.out, ds, HG.out, HGR.out, HF.out⟩

set_option maxRecDepth 20000 in
set_option maxHeartbeats 8000000 in
theorem bgrow_0 (B K p : Nat) (vs : List Value) (cs : List (List UInt8)) (gs : List Value) (ds : List (List UInt8)) (w : World) (hco : ∃ v0 v1 v2 us, Cor B K p v0 v1 v2 vs us gs w) (hG : Grn B vs gs cs ds w) (hGr : Gr p cs 0 0 ds) (hp : p ≤ 1) (hl : ∀ c ∈ cs, c.length ≤ 800) (hm : ∀ (i : Nat) (c : List UInt8), cs[i]? = some c → c = marks p (i + 1) c.length) (hn : vs.length ≤ 900) :
    Calls Tryz.prog 64 #[.pointer (some ⟨K, 0, none⟩), .int .i64 0, .int .i64 0] w fun e w' => e = .returned (.int .i64 (vs.length : Int)) ∧ ∃ gs ds, (∃ v0 v1 v2 us, Cor B K p v0 v1 v2 vs us gs w') ∧ Grn B vs gs cs ds w' ∧ Gr p cs vs.length 0 ds ∧ FrK K w w' := by
  obtain ⟨inf, hi0, hz0, hz1, hz2⟩ := info_parts Tryz.infoR
  obtain ⟨inb, bi0, bz0, bz1, bz2⟩ := info_parts Tryz.infoB
  obtain ⟨n, hnn⟩ : ∃ n, vs.length = n := ⟨_, rfl⟩
  have hlc : cs.length = n := by rw [← hG.rv.len, hnn]
  rw [hnn] at hn ⊢
  have HN := Lib.hid hnn
  have HC := Lib.hid hlc
  clear hnn hlc
  go_enter Tryz.func64, Tryz.ntmps64
  go_wp2
  go_loopw [1, 7] (fun id i wr => ∃ (q : Nat) (gs : List Value) (ds : List (List UInt8)), q ≤ n ∧ id = .int .i64 (q : Int) ∧ i = .int .i64 (q : Int) ∧ Hid (∃ v0 v1 v2 us, Cor B K p v0 v1 v2 vs us gs wr) ∧ Hid (Grn B vs gs cs ds wr) ∧ Hid (Gr p cs q 0 ds) ∧ Hid (FrK K w wr)) (fun _ i _ => n - (intOf i).toNat)
  case atStart => exact ⟨0, gs, ds, Nat.zero_le _, rfl, rfl, Lib.hid hco, Lib.hid hG, Lib.hid hGr, Lib.hid (FrK.refl _ _)⟩
  case round =>
    clear hco hG hGr
    obtain ⟨q, gs, ds, hq, rfl, rfl, HCO, HG, HGR, HF⟩ := hrel
    obtain ⟨v0, v1, v2, us, hco⟩ := HCO.out
    have o0 := hco.o0
    rw [HN.out] at o0
    obtain ⟨A0, k0, rfl, -⟩ := own_any o0
    have c2 := hco.bk.c2
    by_cases hlt : q < n
    · have i1 : (q : Int) < (n : Int) := by omega
      have iw : IntKind.i64.wrap ((q : Int) + 1) = ((q + 1 : Nat) : Int) := by rw [IntWalk.i64_in _ ⟨by omega, by omega⟩]; simp
      obtain ⟨c, hc0⟩ : ∃ c, cs[q]? = some c := ⟨_, List.getElem?_eq_getElem (by rw [HC.out]; exact hlt)⟩
      have hc9 := hl c (List.mem_of_getElem? hc0)
      obtain ⟨g0, q0, x0, e0, hx0, cx0, -⟩ := own_at o0 HN.out q hlt
      injection e0 with e0 _ e0'
      subst e0 e0'
      have hgl : gs.length = q := by rw [HG.out.rg.len]; have := HGR.out.1; simpa using this
      obtain ⟨Ax, kx, rfl, -⟩ := own_any (HG.out.rv.own q x0 c hx0 hc0)
      obtain ⟨mx, hmx⟩ : ∃ m, c.length = m := ⟨_, rfl⟩
      rw [hmx] at hx0 cx0
      obtain ⟨A2, k2, rfl, -⟩ := own_any hco.o2
      have c4 := hco.bk.c4
      have coA := hco.on (one wr (.cells #[.slice Ax mx kx] 44)).drew
      have c4a := coA.bk.c4
      have gA := HG.out.on (one wr (.cells #[.slice Ax mx kx] 44)).drew
      have fA := HF.out.trans (FrK.of_below (one wr (.cells #[.slice Ax mx kx] 44)).drew hco.kw)
      rw [hgl] at c4 c4a
      have oA := coA.o2
      have bA := coA.bw
      have hps := Lib.hid (HGR.out.push hc0 (hm q c hc0))
      have hcc := Lib.hid (show cs[gs.length]? = some c by rw [hgl]; exact hc0)
      have hxx := Lib.hid (show vs[gs.length]? = some (.slice Ax mx kx) by rw [hgl]; exact hx0)
      have HGL := Lib.hid hgl
      clear hgl
      go_upto_region 6 with fail
      go_cut [7] (fun v7 wx => v7 = .int .i64 (q : Int) ∧ ∃ (gs : List Value) (ds : List (List UInt8)), Hid (∃ v0 v1 v2 us, Cor B K p v0 v1 v2 vs us gs wx) ∧ Hid (Grn B vs gs cs ds wx) ∧ Hid (ds.length = q + 1 ∧ ∀ (i : Nat) (d : List UInt8), ds[i]? = some d → ∃ c, cs[i]? = some c ∧ d = marks p (i + 1) (c.length + (if i < q then 1 else 0))) ∧ Hid (FrK K w wx))
      case first =>
        go_region_law (first
          | (refine step_append_one rfl (.tmp 26) (.tmp 34) 25 rfl B 44 inf (.slice none 0 0) 24 Tryz.underlying25 hi0 hz0 hz1 hz2 rfl (.slice A2 q k2) q gs rfl (by rw [← HGL.out]; exact oA) ⟨wr.heap.size, 0, none⟩ 1 (.slice Ax mx kx) rfl (by go_simp) rfl (by unfold maxLen; omega) (by omega) bA ?_; intro v' w4 ho ha; obtain ⟨g', k', rfl, -, -⟩ := ho.form (by omega); have hB4 := coA.bk.on (ha.grown.block K coA.kw (kb_ne (by rw [← HGL.out]; exact oA) coA.kb)); have k44 := hB4.c4; have k4f := hB4.fz; rw [HGL.out] at k44))
        all_goals
          have ha' : Ap1 (.slice A2 gs.length k2) gs.length (wr.alloc (.cells #[.slice Ax mx kx] 44)).drew (.slice (some ⟨g', 0, none⟩) (q + 1) k') w4 := by rw [HGL.out]; exact ha
          have coB := coA.app2 ha' (by rw [HGL.out]; exact ho)
          have gB := ((gA.app coA.o2 ha').kset hco.kb 4 (.slice (some ⟨g', 0, none⟩) (q + 1) k')).push hxx.out hcc.out
          have fB := (fA.trans (FrK.app coA.o2 hco.kb coA.bw ha')).set (Nat.le_refl K) 4 (.slice (some ⟨g', 0, none⟩) (q + 1) k')
          clear ha' hB4 coA gA fA ho ha
          go_wp2_with fail
          go_meet
          exact ⟨rfl, _, _, Lib.hid ⟨_, _, _, _, coB⟩, Lib.hid gB, hps, Lib.hid fB⟩
      obtain ⟨rfl, gs, ds, HCO, HG, HGR, HF⟩ := hcut
      have hql : q < ds.length := by have := HGR.out.1; omega
      have hlen : ds.length = (if (0 : Nat) = 0 then q + 1 else cs.length) := by rw [if_pos rfl]; exact HGR.out.1
      have hall : ∀ (i : Nat) (d : List UInt8), ds[i]? = some d → ∃ c, cs[i]? = some c ∧ d = marks p (i + 1) (c.length + (if i < q then 0 + 1 else 0)) := HGR.out.2
      clear c4 c4a oA bA hps hcc hxx c2 cx0 hx0 hco o0 coA gA fA
      obtain ⟨v0, v1, v2, us, hco⟩ := HCO.out
      obtain ⟨d, hd0⟩ : ∃ d, ds[q]? = some d := ⟨_, List.getElem?_eq_getElem hql⟩
      have hdl : d.length = c.length + 0 := by
        obtain ⟨c', hc', e⟩ := hall q d hd0
        rw [hc0] at hc'
        injection hc' with hc'
        subst hc'
        rw [e, marks_len, if_neg (by omega)]
      have hst := gr_step hql hlen hall hd0
      obtain ⟨m2, hm2⟩ : ∃ m, gs.length = m := ⟨_, rfl⟩
      have hqm : q < m2 := by rw [← hm2, HG.out.rg.len]; exact hql
      have iqm : (q : Int) < (m2 : Int) := by omega
      have o2 := hco.o2
      rw [hm2] at o2
      obtain ⟨G, kG, y0, rfl, hy0, cy0, o2⟩ := own_at o2 hm2 q hqm
      have oy := HG.out.rg.own q y0 d hy0 hd0
      obtain ⟨my, hmy⟩ : ∃ m, d.length = m := ⟨_, rfl⟩
      rw [hmy] at oy hst hdl
      obtain ⟨Ay, ky, rfl, -⟩ := own_any oy
      have hmy9 : my ≤ 950 := by omega
      obtain ⟨x, hx⟩ : ∃ x, bmk p (q + 1) my = x := ⟨_, rfl⟩
      obtain ⟨y, hy⟩ : ∃ y, x.toNat = y := ⟨_, rfl⟩
      have hcel : cel x = .int .u8 (y : Int) := by unfold cel; rw [hy]
      rw [hx] at hst
      have HX := Lib.hid hx
      have HY := Lib.hid hy
      have c4 := hco.bk.c4
      have c1 := hco.bk.c1
      have HMY := Lib.hid hmy
      have HST := Lib.hid hst
      have HCEL := Lib.hid hcel
      have coA := hco.on (one wc (.cells #[.int .u8 (y : Int)] 5)).drew
      have gA := HG.out.on (one wc (.cells #[.int .u8 (y : Int)] 5)).drew
      have fA := HF.out.trans (FrK.of_below (one wc (.cells #[.int .u8 (y : Int)] 5)).drew hco.kw)
      have oA := gA.rg.own q (.slice Ay my ky) d hy0 hd0
      rw [hmy] at oA
      have c4a := coA.bk.c4
      have bA := coA.bw
      have o2A := coA.o2
      rw [hm2] at o2A
      have cyA := (o2A.cellAt q (by omega)).trans hy0
      have HM2 := Lib.hid hm2
      clear hx hy hmy hst hcel hdl hlen hall oy o2 hm2
      go_wp2_with fail
      refine (bytemark_as (id := q + 1) HX HY _ c1 hp (by omega) (by omega) (Lib.hid (by simp))).mono ?_
      rintro e w3 ⟨rfl, rfl⟩
      go_upto_region 8 with fail
      go_region_law (first
        | (refine step_append_one rfl (.tmp 60) (.tmp 62) 44 rfl B 5 inb (.int .u8 0) 1 Tryz.underlying44 bi0 bz0 bz1 bz2 rfl (.slice Ay my ky) my (d.map cel) rfl oA ⟨w3.heap.size, 0, none⟩ 1 (.int .u8 (y : Int)) rfl (by go_simp) rfl (by unfold maxLen; omega) (by omega) bA ?_; intro v' w4 ho ha; obtain ⟨g', k', rfl, -, -⟩ := ho.form (by omega); have co4 := coA.grew oA ha; have k44 := co4.bk.c4; have o24 := co4.o2; rw [HM2.out] at o24; have cz := (o24.cellAt q (by omega)).trans hy0; have czf := o24.frozenAt))
      all_goals
        have gB := gA.grow (x := x) hy0 hd0 (by rw [HMY.out]; exact ha) (by rw [HMY.out, HCEL.out]; exact ho)
        have coB := co4.set2 q (.slice (some ⟨g', 0, none⟩) (my + 1) k')
        have gC := gB.set2 o24 q (.slice (some ⟨g', 0, none⟩) (my + 1) k')
        have fB := (fA.trans (FrK.grew oA coA.kb coA.bw ha)).set (g := G) (by have := (o24.lt G rfl).1; have := coA.kb; omega) q (.slice (some ⟨g', 0, none⟩) (my + 1) k')
        clear gB co4 k44 cz czf ho ha c4a cyA
        go_wp2
        go_roundw
        case rel => exact ⟨q + 1, _, _, by omega, by go_num, by go_num, Lib.hid ⟨_, _, _, _, coB⟩, Lib.hid gC, HST, Lib.hid fB⟩
        case measure => simp [intOf]; omega
    · obtain rfl : q = n := by omega
      have i1 : ¬ (q : Int) < (q : Int) := by omega
      clear hco o0
      go_wp2
      go_ret
      exact ⟨rfl, gs, HCO.out, ds, HG.out, HGR.out, HF.out⟩

end Go.Proofs.YtdpcmokemjfelaaGreatDoor.Kp
