
/- Contracts of the reference: the names and the letters of a change; what may be written. Contract of the reference: the words of one change. Contracts of the reference: lists of changes; a text of changes. Contracts of the reference: a text of changes; bytes as small digits. -/
import Derived.Test.YtpkmekdpmkfcdaaGreatDoorSnA
import Derived.Test.YtpkmekdpmkfcdaaGreatDoorSmH
import Derived.Test.YtpkmekdpmkfcdaaGreatDoorRPars
namespace Go.Proofs.YtpkmekdpmkfcdaaGreatDoor.Sr
set_option linter.unusedVariables false
set_option linter.unusedSimpArgs false
open Go.RowKit Go.Proofs.YtpkmekdpmkfcdaaGreatDoor.Wd Go.Proofs.YtpkmekdpmkfcdaaGreatDoor.Px Go.Proofs.YtpkmekdpmkfcdaaGreatDoor.By Go.Proofs.YtpkmekdpmkfcdaaGreatDoor.En Go.Proofs.YtpkmekdpmkfcdaaGreatDoor.Pl Go.Proofs.YtpkmekdpmkfcdaaGreatDoor.Sc
open Go.Proofs.YtpkmekdpmkfcdaaGreatDoor.Pf (Cut strc one ofP)
/-- a row of strings just built -/
theorem shows_new (w : World) (l : List (List UInt8)) (vs : Array Value) (t : TypeId) (hv : vs = (l.map strc).toArray) : Shows strc (w.alloc (.cells vs t)) (w.alloc (.cells vs t)).heap.size (some ⟨w.heap.size, 0, none⟩) l := by
  subst hv
  intro hl
  refine ⟨w.heap.size, 0, rfl, by simp, ?_⟩
  intro j x hx
  have := (blk_new w (l.map strc).toArray t)
  rw [blk_cell this]
  simp [hx]
/-- the letters as the reference writes them -/
def lowC (c : UInt8) : UInt8 := if c = 76 then 108 else if c = 72 then 107 else if c = 83 then 115 else 112
def chgFormR (k : Nat) : List UInt8 := (chgForm k).map lowC
theorem rchgnames_any (w : World) : Calls Tryz.prog 72 #[] w fun e w' => (∃ A, e = .returned (.slice A 6 6) ∧ Shows strc w' w'.heap.size A ([] :: chgNames)) ∧ Below w.heap.size w w' := by
  go_enter Tryz.func72, Tryz.ntmps72
  go_wp2
  go_ret
  exact ⟨⟨_, rfl, shows_new _ _ _ _ rfl⟩, one w _⟩
theorem rchgform_as {K : Nat} (h1 : 1 ≤ K) (h5 : K ≤ 5) (w : World) : Calls Tryz.prog 70 #[.int .i64 (K : Int)] w fun e w' => e = .returned (.string ⟨(chgFormR K).toArray⟩) ∧ Below w.heap.size w w' := by
  have : K = 1 ∨ K = 2 ∨ K = 3 ∨ K = 4 ∨ K = 5 := by omega
  have hc := fun j u => cells_at (w := w) rfl #[.string ⟨#[]⟩, .string ⟨#[108, 107, 115]⟩, .string ⟨#[108]⟩, .string ⟨#[108, 107, 115]⟩, .string ⟨#[108, 112]⟩, .string ⟨#[108, 112]⟩] 37 j u
  rcases this with rfl | rfl | rfl | rfl | rfl
  all_goals
    go_enter Tryz.func70, Tryz.ntmps70
    go_wp2
    go_ret
    exact ⟨rfl, one w _⟩
end Go.Proofs.YtpkmekdpmkfcdaaGreatDoor.Sr
namespace Go.Proofs.YtpkmekdpmkfcdaaGreatDoor.Sr
set_option linter.unusedVariables false
set_option linter.unusedSimpArgs false
open Go.RowKit Go.Proofs.YtpkmekdpmkfcdaaGreatDoor.Wd Go.Proofs.YtpkmekdpmkfcdaaGreatDoor.Px Go.Proofs.YtpkmekdpmkfcdaaGreatDoor.By Go.Proofs.YtpkmekdpmkfcdaaGreatDoor.En Go.Proofs.YtpkmekdpmkfcdaaGreatDoor.Pl Go.Proofs.YtpkmekdpmkfcdaaGreatDoor.Sc
open Go.Proofs.YtpkmekdpmkfcdaaGreatDoor.Pf (Cut strc one ofP)
theorem eight_set {W : World} {R : Nat} {t : TypeId} {u0 u1 u2 u3 u4 u5 u6 u7 v0 v1 v2 v3 v4 v5 v6 v7 : Value} (h : W.heap[R]? = some (.cells #[u0, u1, u2, u3, u4, u5, u6, u7] t (0, 0))) :
    ((((((((W.setCell ⟨R, 0, none⟩ v0).setCell ⟨R, 1, none⟩ v1).setCell ⟨R, 2, none⟩ v2).setCell ⟨R, 3, none⟩ v3).setCell ⟨R, 4, none⟩ v4).setCell ⟨R, 5, none⟩ v5).setCell ⟨R, 6, none⟩ v6).setCell ⟨R, 7, none⟩ v7).heap[R]? = some (.cells #[v0, v1, v2, v3, v4, v5, v6, v7] t (0, 0)) := by
  have h0 : (W.setCell ⟨R, 0, none⟩ v0).heap[R]? = some (.cells #[v0, u1, u2, u3, u4, u5, u6, u7] t (0, 0)) := heap_setCell_same _ R 0 _ t _ h
  have h1 : ((W.setCell ⟨R, 0, none⟩ v0).setCell ⟨R, 1, none⟩ v1).heap[R]? = some (.cells #[v0, v1, u2, u3, u4, u5, u6, u7] t (0, 0)) := heap_setCell_same _ R 1 _ t _ h0
  have h2 : (((W.setCell ⟨R, 0, none⟩ v0).setCell ⟨R, 1, none⟩ v1).setCell ⟨R, 2, none⟩ v2).heap[R]? = some (.cells #[v0, v1, v2, u3, u4, u5, u6, u7] t (0, 0)) := heap_setCell_same _ R 2 _ t _ h1
  have h3 : ((((W.setCell ⟨R, 0, none⟩ v0).setCell ⟨R, 1, none⟩ v1).setCell ⟨R, 2, none⟩ v2).setCell ⟨R, 3, none⟩ v3).heap[R]? = some (.cells #[v0, v1, v2, v3, u4, u5, u6, u7] t (0, 0)) := heap_setCell_same _ R 3 _ t _ h2
  have h4 : (((((W.setCell ⟨R, 0, none⟩ v0).setCell ⟨R, 1, none⟩ v1).setCell ⟨R, 2, none⟩ v2).setCell ⟨R, 3, none⟩ v3).setCell ⟨R, 4, none⟩ v4).heap[R]? = some (.cells #[v0, v1, v2, v3, v4, u5, u6, u7] t (0, 0)) := heap_setCell_same _ R 4 _ t _ h3
  have h5 : ((((((W.setCell ⟨R, 0, none⟩ v0).setCell ⟨R, 1, none⟩ v1).setCell ⟨R, 2, none⟩ v2).setCell ⟨R, 3, none⟩ v3).setCell ⟨R, 4, none⟩ v4).setCell ⟨R, 5, none⟩ v5).heap[R]? = some (.cells #[v0, v1, v2, v3, v4, v5, u6, u7] t (0, 0)) := heap_setCell_same _ R 5 _ t _ h4
  have h6 : (((((((W.setCell ⟨R, 0, none⟩ v0).setCell ⟨R, 1, none⟩ v1).setCell ⟨R, 2, none⟩ v2).setCell ⟨R, 3, none⟩ v3).setCell ⟨R, 4, none⟩ v4).setCell ⟨R, 5, none⟩ v5).setCell ⟨R, 6, none⟩ v6).heap[R]? = some (.cells #[v0, v1, v2, v3, v4, v5, v6, u7] t (0, 0)) := heap_setCell_same _ R 6 _ t _ h5
  have h7 : ((((((((W.setCell ⟨R, 0, none⟩ v0).setCell ⟨R, 1, none⟩ v1).setCell ⟨R, 2, none⟩ v2).setCell ⟨R, 3, none⟩ v3).setCell ⟨R, 4, none⟩ v4).setCell ⟨R, 5, none⟩ v5).setCell ⟨R, 6, none⟩ v6).setCell ⟨R, 7, none⟩ v7).heap[R]? = some (.cells #[v0, v1, v2, v3, v4, v5, v6, v7] t (0, 0)) := heap_setCell_same _ R 7 _ t _ h6
  exact h7
/-- the result is stored and read at the end -/
theorem close_rchg {W : World} {R : Nat} {t : TypeId} {u0 u1 u2 u3 u4 u5 u6 u7 : Value} (h : W.heap[R]? = some (.cells #[u0, u1, u2, u3, u4, u5, u6, u7] t (0, 0))) {tmps : Array Value} {Qp : Ending → World → Prop} {v0 v1 v2 v3 v4 v5 v6 v7 : Value}
    (x : Int) (h2 : (tmps[2]?).getD undef = .pointer (some ⟨R, 0, none⟩)) (h3 : (tmps[3]?).getD undef = .int .i64 x)
    (hQ : ∀ W8 : World, (∀ B a, B ≤ R → Below B a W → Below B a W8) → (∀ g, g ≠ R → W8.heap[g]? = W.heap[g]?) → Qp (.returned (.tuple #[.agg #[v0, v1, v2, v3, v4, v5, v6, v7], .int .i64 x])) W8) :
    bodyPost Tryz.prog Tryz.f61 Qp .ret { tmps := tmps, defers := [] } ((((((((W.setCell ⟨R, 0, none⟩ v0).setCell ⟨R, 1, none⟩ v1).setCell ⟨R, 2, none⟩ v2).setCell ⟨R, 3, none⟩ v3).setCell ⟨R, 4, none⟩ v4).setCell ⟨R, 5, none⟩ v5).setCell ⟨R, 6, none⟩ v6).setCell ⟨R, 7, none⟩ v7) := by
  have h8 := eight_set (v0 := v0) (v1 := v1) (v2 := v2) (v3 := v3) (v4 := v4) (v5 := v5) (v6 := v6) (v7 := v7) h
  have hQ' := hQ _ (fun B a hB hb => Below.eight hb hB v0 v1 v2 v3 v4 v5 v6 v7) (fun g hg => eight_other hg v0 v1 v2 v3 v4 v5 v6 v7)
  clear hQ h
  generalize ((((((((W.setCell ⟨R, 0, none⟩ v0).setCell ⟨R, 1, none⟩ v1).setCell ⟨R, 2, none⟩ v2).setCell ⟨R, 3, none⟩ v3).setCell ⟨R, 4, none⟩ v4).setCell ⟨R, 5, none⟩ v5).setCell ⟨R, 6, none⟩ v6).setCell ⟨R, 7, none⟩ v7) = W8 at h8 hQ' ⊢
  have e0 : W8.cell? ⟨R, 0, none⟩ = some v0 := (blk_cell h8 0).trans rfl
  have e1 : W8.cell? ⟨R, 1, none⟩ = some v1 := (blk_cell h8 1).trans rfl
  have e2 : W8.cell? ⟨R, 2, none⟩ = some v2 := (blk_cell h8 2).trans rfl
  have e3 : W8.cell? ⟨R, 3, none⟩ = some v3 := (blk_cell h8 3).trans rfl
  have e4 : W8.cell? ⟨R, 4, none⟩ = some v4 := (blk_cell h8 4).trans rfl
  have e5 : W8.cell? ⟨R, 5, none⟩ = some v5 := (blk_cell h8 5).trans rfl
  have e6 : W8.cell? ⟨R, 6, none⟩ = some v6 := (blk_cell h8 6).trans rfl
  have e7 : W8.cell? ⟨R, 7, none⟩ = some v7 := (blk_cell h8 7).trans rfl
  exact bodyPost_ret (v := .tuple #[.agg #[v0, v1, v2, v3, v4, v5, v6, v7], .int .i64 x]) (by simp [results, Tryz.results61, go_sem, *]) rfl hQ'
theorem rparsep_as {t : List UInt8} {o : Option (Int × Nat × Int)} (h : Hid (prsP t = o)) (ht : t.length ≤ 140737488355328) (w : World) (hE : Env w) :
    Calls Tryz.prog 153 #[.string ⟨t.toArray⟩] w fun e w' => e = .returned (ofP o) ∧ Below w.heap.size w w' := by
  have := Pf.rparse_any t ht w hE
  rwa [h.out] at this
/-- what one letter does: a number -/
theorem numI_neg {y : List UInt8} {v : Int} (h : numI y = v) (hv : v < 0) : numW y = none := by
  unfold numI at h
  cases hn : numW y with
  | none => rfl
  | some n => rw [hn] at h; simp at h; omega
theorem numI_pos {y : List UInt8} {v : Int} (h : numI y = v) (hv : ¬ v < 0) : ∃ n : Nat, numW y = some n ∧ v = (n : Int) := by
  unfold numI at h
  cases hn : numW y with
  | none => rw [hn] at h; simp at h; omega
  | some n => rw [hn] at h; exact ⟨n, rfl, h.symm⟩
theorem rchg_form {K : Nat} (h5 : K ≤ 5) : (chgForm K).length ≤ 3 ∧ (chgFormR K).length = (chgForm K).length ∧ ∀ x ∈ chgForm K, x = 76 ∨ x = 83 ∨ x = 72 ∨ x = 80 := by
  have : K = 0 ∨ K = 1 ∨ K = 2 ∨ K = 3 ∨ K = 4 ∨ K = 5 := by omega
  rcases this with rfl | rfl | rfl | rfl | rfl | rfl <;> decide
set_option maxRecDepth 20000 in
set_option maxHeartbeats 2000000 in
theorem rchange_any (l : List (List UInt8)) (A : Option Addr) (c : Nat) (w : World) (hE : Env w) (hl : l.length ≤ 2000000) (hc : l.length ≤ c) (hs : Shows strc w w.heap.size A l) (hw : ∀ x ∈ l, x.length ≤ 2000000) :
    Calls Tryz.prog 61 #[.slice A l.length c] w fun e w' => ChgR (chg l) w e w' ∧ Below w.heap.size w w' := by
  cases l with
  | nil =>
    have hz := one w (.cells (chC chg0 (.slice none 0 0)) 92)
    go_enter Tryz.func61, Tryz.ntmps61
    go_wp2
    exact bodyPost_ret (v := .tuple #[.agg (chC chg0 (.slice none 0 0)), .int .i64 222]) (by simp [results, Tryz.results61, go_sem, chC, chg0, *]) rfl ⟨⟨_, _, _, _, rfl⟩, hz⟩
  | cons a ws =>
    obtain ⟨N, hN⟩ : ∃ N, (a :: ws).length = N := ⟨_, rfl⟩
    rw [hN] at hl hc ⊢
    have HN := Lib.hid hN
    have i0 : (0 : Int) < (N : Int) := by have := hN; simp at this; omega
    have i00 : 0 < N := by omega
    obtain ⟨K, hK⟩ : ∃ K, named chgNames a = K := ⟨_, rfl⟩
    have hK5 : K ≤ 5 := by have := named_le chgNames a; rw [hK] at this; exact this
    have HK := Lib.hid hK
    obtain ⟨bb, o, rfl, hbb, hcell⟩ := hs (by simp)
    have c0 := hcell 0 a rfl
    rw [Nat.add_zero] at c0
    unfold strc at c0
    have hbw : bb < w.heap.size := hbb
    clear hN hK
    go_enter Tryz.func61, Tryz.ntmps61
    go_upto_region 3 with fail
    have hbl := (one w (.cells (chC chg0 (.slice none 0 0)) 92))
    have hB : (w.alloc (.cells (chC chg0 (.slice none 0 0)) 92)).heap[w.heap.size]? = some (.cells (chC chg0 (.slice none 0 0)) 92 (0, 0)) := blk_new w _ _
    change Code.wp _ _ _ _ (w.alloc (.cells (chC chg0 (.slice none 0 0)) 92))
    generalize (w.alloc (.cells (chC chg0 (.slice none 0 0)) 92)) = W0 at hbl hB ⊢
    obtain ⟨R, hR⟩ : ∃ R, w.heap.size = R := ⟨_, rfl⟩
    have hRw : w.heap.size ≤ R := Nat.le_of_eq hR
    rw [hR] at hB ⊢
    have hbn : bb ≠ R := by omega
    clear hR
    have hd0 : Below W0.heap.size W0 W0.drew := (Below.refl _ _).drew
    have hBd := (hd0.block R (blk_lt hB)).trans hB
    have hbld := hbl.drew
    have c0d := (hbld.cell (p := ⟨bb, o, none⟩) hbw).trans c0
    have HE0 := Lib.hid (hE.on hbld)
    clear c0 hB hbl hd0 hbb
    go_cut [4] (fun v wx => v = .int .i64 (K : Int) ∧ Hid (wx.heap[R]? = some (.cells (chC chg0 (.slice none 0 0)) 92 (0, 0)) ∧ Below w.heap.size w wx))
    case first =>
      go_region_law (first
        | (go_simp; go_at_call 72; with_reducible refine (rchgnames_any _).mono ?_; rintro e w1 ⟨⟨An, rfl, hsn⟩, hb1⟩; have c01 := keepc hb1 c0d; have hB1 := (hb1.block R (blk_lt hBd)).trans hBd; have hbl1 := hbld.trans (hb1.mono hbld.size))
        | (go_simp; go_at_call 139; with_reducible refine (rfind_as HK An 6 6 _ (Lib.hid rfl) (by decide) hsn).mono ?_; rintro e w2 ⟨rfl, rfl⟩))
      all_goals
        go_wp2_with fail
        go_meet
        exact ⟨rfl, Lib.hid ⟨hB1, hbl1⟩⟩
    obtain ⟨rfl, HX⟩ := hcut
    obtain ⟨hB1, hbl1⟩ := HX.out
    clear HX hBd hbld c0d HE0
    by_cases hK0 : K = 0
    · have HC : Hid (chg (a :: ws) = .error 222) := Lib.hid (by rw [chg_cons, HK.out, if_pos hK0])
      subst hK0
      obtain ⟨e0, e1, e2, e3, e4, e5, e6, e7, fr⟩ := chC_cells hB1
      simp only [chg0] at e0 e1 e2 e3 e4 e5 e6 e7
      go_wp2
      refine close_rchg hB1 222 rfl rfl fun W8 hb8 ho8 => ⟨?_, hb8 _ _ hRw hbl1⟩
      rw [HC.out]
      exact ⟨chg0, none, 0, 0, rfl⟩
    · have kz : ((K : Int) == 0) = false := by rw [beq_eq_false_iff_ne]; omega
      obtain ⟨hf3, hfl, hfx⟩ := rchg_form hK5
      obtain ⟨f, hf⟩ : ∃ f, chgForm K = f := ⟨_, rfl⟩
      obtain ⟨g, hg⟩ : ∃ g, chgFormR K = g := ⟨_, rfl⟩
      have hgf : g = f.map lowC := by rw [← hg, ← hf]; rfl
      rw [hf] at hf3 hfx hfl
      rw [hg] at hfl
      obtain ⟨M, hM⟩ : ∃ M, f.length = M := ⟨_, rfl⟩
      rw [hM] at hf3 hfl
      obtain ⟨tb, htb⟩ : ∃ s : ByteArray, s = ⟨g.toArray⟩ := ⟨_, rfl⟩
      have hsz : tb.size = M := by rw [htb]; exact hfl
      have hat : ∀ (k : Nat) (h1 : k < tb.size) (x : UInt8), f[k]? = some x → tb[k] = lowC x := by
        intro k h1 x hx
        have : g[k]? = some (lowC x) := by rw [hgf, List.getElem?_map, hx]; rfl
        exact str_at htb this h1
      have HF := Lib.hid hf
      have HM := Lib.hid hM
      have HFX := Lib.hid hfx
      have HSZ := Lib.hid hsz
      have HAT := Lib.hid hat
      have hform : ∀ wq : World, Calls Tryz.prog 70 #[.int .i64 (K : Int)] wq fun e w' => e = .returned (.string tb) ∧ Below wq.heap.size wq w' := fun wq => by
        have := rchgform_as (K := K) (by omega) hK5 wq
        rw [htb, ← hg]
        exact this
      clear hf hg hgf hfx hfl hM htb hat
      go_upto_region 6 with fail
      go_cut [5] (fun v wx => v = .string tb ∧ Hid (wx.heap[R]? = some (.cells (chC chg0 (.slice none 0 0)) 92 (0, 0)) ∧ Below w.heap.size w wx))
      case first =>
        go_wp2_with fail
        refine (hform _).mono ?_
        rintro e w2 ⟨rfl, hb2⟩
        go_wp2_with fail
        go_meet
        exact ⟨rfl, Lib.hid ⟨(hb2.block R (blk_lt hB1)).trans hB1, hbl1.trans (hb2.mono hbl1.size)⟩⟩
      obtain ⟨rfl, HX⟩ := hcut
      clear hB1 hbl1
      obtain ⟨hB1, hbl1⟩ := HX.out
      clear HX hform
      by_cases hcnt : N = M + 1
      · have HWL : Hid (ws.length = M) := Lib.hid (by have := HN.out; simp at this; omega)
        have HC : Hid (chg (a :: ws) = chgFlds { chg0 with kind := (K : Int) } f ws) := Lib.hid (by rw [chg_cons, HK.out, if_neg hK0, HF.out, if_neg (by rw [HWL.out, HM.out]; simp)])
        have ic : ((N : Int) != 1 + (tb.size : Int)) = false := by rw [bne_eq_false_iff_eq]; omega
        have hNM : M + 1 ≤ N := by omega
        clear hK0 hcnt
        obtain ⟨e0, e1, e2, e3, e4, e5, e6, e7, fr⟩ := chC_cells hB1
        simp only [chg0] at e0 e1 e2 e3 e4 e5 e6 e7
        have hRlt := blk_lt hB1
        go_wp2
        have hBC : (wc.alloc (.cells (chC { chg0 with kind := (K : Int) } (.slice none 0 0)) 92)).heap[wc.heap.size]? = some (.cells (chC { chg0 with kind := (K : Int) } (.slice none 0 0)) 92 (0, 0)) := blk_new wc _ _
        have hBR : (wc.alloc (.cells (chC { chg0 with kind := (K : Int) } (.slice none 0 0)) 92)).heap[R]? = some (.cells (chC chg0 (.slice none 0 0)) 92 (0, 0)) := ((one wc _).block R hRlt).trans hB1
        have hblC : Below w.heap.size w (wc.alloc (.cells (chC { chg0 with kind := (K : Int) } (.slice none 0 0)) 92)) := hbl1.alloc hbl1.size _
        have hwD : w.heap.size ≤ wc.heap.size := hbl1.size
        clear e0 e1 e2 e3 e4 e5 e6 e7 fr hB1 hbl1
        obtain ⟨D, hD⟩ : ∃ D, wc.heap.size = D := ⟨_, rfl⟩
        rw [hD] at hBC hRlt hwD ⊢
        go_loopw [7] (fun ev wr => ∃ (pos : Nat) (ch : Chg) (kv : Value), pos ≤ M ∧ ev = .int .i64 (pos : Int) ∧ Hid (chg (a :: ws) = chgFlds ch (f.drop pos) (ws.drop pos)) ∧ wr.heap[D]? = some (.cells (chC ch kv) 92 (0, 0)) ∧ wr.heap[R]? = some (.cells (chC chg0 (.slice none 0 0)) 92 (0, 0)) ∧ Hid (wr.ownsRow (D + 1) 5 1 kv ch.key.length (ch.key.map cel)) ∧ Below w.heap.size w wr) (fun ev _ => M - (intOf ev).toNat)
        case atStart => exact ⟨0, { chg0 with kind := (K : Int) }, .slice none 0 0, Nat.zero_le _, rfl, HC, hBC, hBR, Lib.hid (World.ownsRow_nil _ _ _ _), hblC⟩
        case round =>
          obtain ⟨pos, ch, kv, hpos, rfl, HG, hBr, hRr, HO, hbl⟩ := hrel
          obtain ⟨Ak, ck, rfl, hk9⟩ := own_sl HO.out
          clear hBC hBR hblC HC
          obtain ⟨e0, e1, e2, e3, e4, e5, e6, e7, fr⟩ := chC_cells hBr
          obtain ⟨r0, r1, r2, r3, r4, r5, r6, r7, fr0⟩ := chC_cells hRr
          simp only [chg0] at r0 r1 r2 r3 r4 r5 r6 r7
          by_cases hlt : pos < M
          · obtain ⟨x, hx⟩ : ∃ x, f[pos]? = some x := ⟨_, List.getElem?_eq_getElem (by rw [HM.out]; exact hlt)⟩
            obtain ⟨y, hy⟩ : ∃ y, ws[pos]? = some y := ⟨_, List.getElem?_eq_getElem (by rw [HWL.out]; exact hlt)⟩
            have hlt2 : pos < tb.size := by rw [HSZ.out]; exact hlt
            have htx := HAT.out pos hlt2 x hx
            have hxx := HFX.out x (List.mem_of_getElem? hx)
            have hyl := hw y (List.mem_cons_of_mem _ (List.mem_of_getElem? hy))
            have hst := chgFlds_at ch hx hy
            rw [← HG.out] at hst
            have HST := Lib.hid hst
            have cy := (hbl.cell (p := ⟨bb, o + (pos + 1), none⟩) hbw).trans (hcell (pos + 1) y (by simpa using hy))
            unfold strc at cy
            have i1 : (pos : Int) < (tb.size : Int) := by omega
            have i2 : (pos : Int) + 1 < (N : Int) := by have := HSZ.out; omega
            have i3 : (0 : Int) ≤ (pos : Int) + 1 := by omega
            have ep : ((pos : Int) + 1).toNat = pos + 1 := by omega
            obtain ⟨v, hv⟩ : ∃ v, numI y = v := ⟨_, rfl⟩
            have HV := Lib.hid hv
            have hcallN := fun wq => rnumber_as HV (by omega) wq
            clear hx hy hst hv
            rcases hxx with rfl | rfl | rfl | rfl
            · have htx : (((tb[pos]'hlt2).toNat : Nat) : Int) = 108 := by rw [htx]; rfl
              by_cases hneg : v < 0
              · have HE : Hid (chg (a :: ws) = .error 223) := Lib.hid (by rw [HST.out]; unfold chgFld; rw [if_pos rfl, numI_neg HV.out hneg])
                clear hcell hs hw
                go_wp2_with fail
                refine (hcallN _).mono ?_
                rintro e w3 ⟨rfl, rfl⟩
                go_wp2
                refine close_rchg hRr 223 rfl rfl fun W8 hb8 ho8 => ⟨?_, hb8 _ _ hRw hbl⟩
                rw [HE.out]
                exact ⟨chg0, none, 0, 0, rfl⟩
              · obtain ⟨n, hn, hvn⟩ := numI_pos HV.out hneg
                have HN2 : Hid (chg (a :: ws) = chgFlds { ch with link := (n : Int) } (f.drop (pos + 1)) (ws.drop (pos + 1))) := Lib.hid (by rw [HST.out]; unfold chgFld; rw [if_pos rfl, hn])
                have hB4 : (wr.setCell ⟨D, 1, none⟩ (.int .i64 (n : Int))).heap[D]? = some (.cells (chC { ch with link := (n : Int) } (.slice Ak ch.key.length ck)) 92 (0, 0)) := (heap_setCell_same wr D 1 _ _ (.int .i64 (n : Int)) hBr).trans rfl
                have hR4 : (wr.setCell ⟨D, 1, none⟩ (.int .i64 (n : Int))).heap[R]? = some (.cells (chC chg0 (.slice none 0 0)) 92 (0, 0)) := (Below.heap_setCell wr ⟨D, 1, none⟩ _ R (by show R ≠ D; omega)).trans hRr
                have hO4 := own_same (w' := wr.setCell ⟨D, 1, none⟩ (.int .i64 (n : Int))) HO.out (fun g hg => Below.heap_setCell wr ⟨D, 1, none⟩ _ g (by have := (HO.out.lt g hg).1; show g ≠ D; omega))
                have hbl4 := hbl.setCell (p := ⟨D, 1, none⟩) hwD (.int .i64 (n : Int))
                have hnn : ¬ (n : Int) < 0 := by omega
                subst hvn
                clear HST hneg hn hcell hs hw
                go_wp2_with fail
                refine (hcallN _).mono ?_
                rintro e w3 ⟨rfl, rfl⟩
                go_wp2
                go_roundw
                case rel => exact ⟨pos + 1, _, _, hlt, by go_num, HN2, hB4, hR4, Lib.hid hO4, hbl4⟩
                case measure => simp [intOf]; omega
            · have htx : (((tb[pos]'hlt2).toNat : Nat) : Int) = 115 := by rw [htx]; rfl
              by_cases hneg : v < 0
              · have HE : Hid (chg (a :: ws) = .error 223) := Lib.hid (by rw [HST.out]; unfold chgFld; rw [if_neg (by decide), if_pos rfl, numI_neg HV.out hneg])
                clear hcell hs hw
                go_wp2_with fail
                refine (hcallN _).mono ?_
                rintro e w3 ⟨rfl, rfl⟩
                go_wp2
                refine close_rchg hRr 223 rfl rfl fun W8 hb8 ho8 => ⟨?_, hb8 _ _ hRw hbl⟩
                rw [HE.out]
                exact ⟨chg0, none, 0, 0, rfl⟩
              · obtain ⟨n, hn, hvn⟩ := numI_pos HV.out hneg
                have HN2 : Hid (chg (a :: ws) = chgFlds { ch with side := (n : Int) } (f.drop (pos + 1)) (ws.drop (pos + 1))) := Lib.hid (by rw [HST.out]; unfold chgFld; rw [if_neg (by decide), if_pos rfl, hn])
                have hB4 : (wr.setCell ⟨D, 2, none⟩ (.int .i64 (n : Int))).heap[D]? = some (.cells (chC { ch with side := (n : Int) } (.slice Ak ch.key.length ck)) 92 (0, 0)) := (heap_setCell_same wr D 2 _ _ (.int .i64 (n : Int)) hBr).trans rfl
                have hR4 : (wr.setCell ⟨D, 2, none⟩ (.int .i64 (n : Int))).heap[R]? = some (.cells (chC chg0 (.slice none 0 0)) 92 (0, 0)) := (Below.heap_setCell wr ⟨D, 2, none⟩ _ R (by show R ≠ D; omega)).trans hRr
                have hO4 := own_same (w' := wr.setCell ⟨D, 2, none⟩ (.int .i64 (n : Int))) HO.out (fun g hg => Below.heap_setCell wr ⟨D, 2, none⟩ _ g (by have := (HO.out.lt g hg).1; show g ≠ D; omega))
                have hbl4 := hbl.setCell (p := ⟨D, 2, none⟩) hwD (.int .i64 (n : Int))
                have hnn : ¬ (n : Int) < 0 := by omega
                subst hvn
                clear HST hneg hn hcell hs hw
                go_wp2_with fail
                refine (hcallN _).mono ?_
                rintro e w3 ⟨rfl, rfl⟩
                go_wp2
                go_roundw
                case rel => exact ⟨pos + 1, _, _, hlt, by go_num, HN2, hB4, hR4, Lib.hid hO4, hbl4⟩
                case measure => simp [intOf]; omega
            · have htx : (((tb[pos]'hlt2).toNat : Nat) : Int) = 107 := by rw [htx]; rfl
              obtain ⟨ho, hho⟩ : ∃ ho, hexW y = ho := ⟨_, rfl⟩
              have HH := Lib.hid hho
              have HE : ho = none → Hid (chg (a :: ws) = .error 225) := fun h => Lib.hid (by rw [HST.out]; unfold chgFld; rw [if_neg (by decide), if_neg (by decide), if_pos rfl, hho, h])
              have HN2 : ∀ b, ho = some b → Hid (chg (a :: ws) = chgFlds { ch with key := b } (f.drop (pos + 1)) (ws.drop (pos + 1))) := fun b h => Lib.hid (by rw [HST.out]; unfold chgFld; rw [if_neg (by decide), if_neg (by decide), if_pos rfl, hho, h])
              clear hho HST hcell hs hw
              have hDr := blk_lt hBr
              have hRr0 := blk_lt hRr
              go_wp2_with fail
              refine (hcallN _).mono ?_
              rintro e w3 ⟨rfl, rfl⟩
              go_wp2_with fail
              refine (rhex_as HH (by omega) _).mono ?_
              clear e0 e1 e2 e3 e4 e5 e6 e7 fr r0 r1 r2 r3 r4 r5 r6 r7 fr0
              rintro e w3 ⟨hres, hb3⟩
              have hB3 := (hb3.block D hDr).trans hBr
              have hR3 := (hb3.block R hRr0).trans hRr
              have hbl3 := hbl.trans (hb3.mono hbl.size)
              obtain ⟨e0, e1, e2, e3, e4, e5, e6, e7, fr⟩ := chC_cells hB3
              obtain ⟨r0, r1, r2, r3, r4, r5, r6, r7, fr0⟩ := chC_cells hR3
              simp only [chg0] at r0 r1 r2 r3 r4 r5 r6 r7
              clear hb3 cy
              cases ho with
              | none =>
                have HE1 := HE rfl
                clear HE
                obtain ⟨Ab, nb, kb, rfl⟩ := hres
                clear HN2
                go_wp2
                refine close_rchg hR3 225 rfl rfl fun W8 hb8 ho8 => ⟨?_, hb8 _ _ hRw hbl3⟩
                rw [HE1.out]
                exact ⟨chg0, none, 0, 0, rfl⟩
              | some b =>
                have HN3 := HN2 b rfl
                clear HN2
                obtain ⟨Ab, kb, rfl, hob⟩ := hres
                obtain ⟨nb, hnb⟩ : ∃ nb, b.length = nb := ⟨_, rfl⟩
                rw [hnb] at hob ⊢
                have hB4 : (w3.setCell ⟨D, 3, none⟩ (.slice Ab nb kb)).heap[D]? = some (.cells (chC { ch with key := b } (.slice Ab nb kb)) 92 (0, 0)) := (heap_setCell_same w3 D 3 _ _ (.slice Ab nb kb) hB3).trans rfl
                have hR4 : (w3.setCell ⟨D, 3, none⟩ (.slice Ab nb kb)).heap[R]? = some (.cells (chC chg0 (.slice none 0 0)) 92 (0, 0)) := (Below.heap_setCell w3 ⟨D, 3, none⟩ _ R (by show R ≠ D; omega)).trans hR3
                have hlow := own_low hob hDr
                have hO4 := own_same (w' := w3.setCell ⟨D, 3, none⟩ (.slice Ab nb kb)) hlow (fun g hg => Below.heap_setCell w3 ⟨D, 3, none⟩ _ g (by have := (hlow.lt g hg).1; show g ≠ D; omega))
                have hbl4 := hbl3.setCell (p := ⟨D, 3, none⟩) hwD (.slice Ab nb kb)
                have HNB := Lib.hid hnb
                clear HE hnb hlow hob
                go_wp2
                go_roundw
                case rel => exact ⟨pos + 1, { ch with key := b }, .slice Ab nb kb, hlt, by go_num, HN3, hB4, hR4, Lib.hid (by show World.ownsRow _ _ _ _ _ b.length _; rw [HNB.out]; exact hO4), hbl4⟩
                case measure => simp [intOf]; omega
            · have htx : (((tb[pos]'hlt2).toNat : Nat) : Int) = 112 := by rw [htx]; rfl
              obtain ⟨o1, ho1⟩ : ∃ o, prsP y = o := ⟨_, rfl⟩
              have HP := Lib.hid ho1
              have HE : o1 = none → Hid (chg (a :: ws) = .error 70) := fun h => Lib.hid (by rw [HST.out]; unfold chgFld; rw [if_neg (by decide), if_neg (by decide), if_neg (by decide), ho1, h])
              have HN2 : ∀ q, o1 = some q → Hid (chg (a :: ws) = chgFlds { ch with pf := q.1, ph := q.2.1 / 18446744073709551616, pl := q.2.1 % 18446744073709551616, pb := q.2.2 } (f.drop (pos + 1)) (ws.drop (pos + 1))) := fun q h => Lib.hid (by rw [HST.out]; unfold chgFld; rw [if_neg (by decide), if_neg (by decide), if_neg (by decide), ho1, h])
              clear ho1 HST hcell hs hw
              have hDr := blk_lt hBr
              have hRr0 := blk_lt hRr
              have hEr := hE.on hbl
              go_wp2_with fail
              refine (hcallN _).mono ?_
              rintro e w3 ⟨rfl, rfl⟩
              go_wp2_with fail
              refine (rparsep_as HP (by omega) _ hEr).mono ?_
              clear e0 e1 e2 e3 e4 e5 e6 e7 fr r0 r1 r2 r3 r4 r5 r6 r7 fr0
              rintro e w3 ⟨rfl, hb3⟩
              clear hEr cy
              cases o1 with
              | none =>
                have HE1 := HE rfl
                clear HE
                have hB3 := (hb3.block R hRr0).trans hRr
                have hbl3 := hbl.trans (hb3.mono hbl.size)
                have hR4 : (w3.alloc (.cells #[.int .i64 0, .int .u64 0, .int .u64 0, .int .i64 0] 90)).heap[R]? = some (.cells (chC chg0 (.slice none 0 0)) 92 (0, 0)) := ((one w3 _).block R (blk_lt hB3)).trans hB3
                have hbl4 := hbl3.alloc hbl3.size (.cells #[.int .i64 0, .int .u64 0, .int .u64 0, .int .i64 0] 90)
                obtain ⟨r0, r1, r2, r3, r4, r5, r6, r7, fr0⟩ := chC_cells hR4
                simp only [chg0] at r0 r1 r2 r3 r4 r5 r6 r7
                simp only [ofP]
                clear HN2 hb3 hB3 hbl3
                go_wp2
                refine close_rchg hR4 70 rfl rfl fun W8 hb8 ho8 => ⟨?_, hb8 _ _ hRw hbl4⟩
                rw [HE1.out]
                exact ⟨chg0, none, 0, 0, rfl⟩
              | some q =>
                have HN3 := HN2 q rfl
                clear HN2
                obtain ⟨qf, qn, qb⟩ := q
                simp only [ofP]
                dsimp only at HN3
                generalize qn / 18446744073709551616 = q1 at HN3 ⊢
                generalize qn % 18446744073709551616 = q2 at HN3 ⊢
                have hB3 := (hb3.block D hDr).trans hBr
                have hR3 := (hb3.block R hRr0).trans hRr
                have hO3 := own_on HO.out hb3
                have hbl3 := hbl.trans (hb3.mono hbl.size)
                have hPB := blk_new w3 #[.int .i64 qf, .int .u64 (q1 : Int), .int .u64 (q2 : Int), .int .i64 qb] 90
                have ha := one w3 (.cells #[.int .i64 qf, .int .u64 (q1 : Int), .int .u64 (q2 : Int), .int .i64 qb] 90)
                have hBa := (ha.block D (blk_lt hB3)).trans hB3
                have hRa := (ha.block R (blk_lt hR3)).trans hR3
                have hOa := own_on hO3 ha
                have hbla := hbl3.alloc hbl3.size (.cells #[.int .i64 qf, .int .u64 (q1 : Int), .int .u64 (q2 : Int), .int .i64 qb] 90)
                have hB4 := four_set hBa qf q1 q2 qb
                have hR4 := (four_other _ (show R ≠ D by omega) (.int .i64 qf) (.int .u64 (q1 : Int)) (.int .u64 (q2 : Int)) (.int .i64 qb)).trans hRa
                have hO4 := own_same hOa (fun g hg => four_other _ (show g ≠ D by have := (hOa.lt g hg).1; omega) (.int .i64 qf) (.int .u64 (q1 : Int)) (.int .u64 (q2 : Int)) (.int .i64 qb))
                have hbl4 := (((hbla.setCell (p := ⟨D, 4, none⟩) hwD (.int .i64 qf)).setCell (p := ⟨D, 5, none⟩) hwD (.int .u64 (q1 : Int))).setCell (p := ⟨D, 6, none⟩) hwD (.int .u64 (q2 : Int))).setCell (p := ⟨D, 7, none⟩) hwD (.int .i64 qb)
                obtain ⟨e0, e1, e2, e3, e4, e5, e6, e7, fr⟩ := chC_cells hBa
                clear HE hb3 hB3 hR3 hO3 hbl3 ha hRa hOa hbla hBa hPB
                go_wp2
                go_roundw
                case rel => exact ⟨pos + 1, _, _, hlt, by go_num, HN3, hB4, hR4, Lib.hid hO4, hbl4⟩
                case measure => simp [intOf]; omega
          · have hpm : pos = M := by omega
            have hE3 : Hid (chg (a :: ws) = .ok ch) := Lib.hid (by
              rw [HG.out, List.drop_of_length_le (by rw [HM.out]; omega)]; rfl)
            have i1 : ¬ (pos : Int) < (tb.size : Int) := by omega
            clear hpm hlt hcell hs hw
            go_wp2
            refine close_rchg hRr 0 rfl rfl fun W8 hb8 ho8 => ⟨?_, hb8 _ _ hRw hbl⟩
            rw [hE3.out]
            exact ⟨Ak, ck, rfl, own_same (own_low HO.out (by omega)) fun g hg => ho8 g (by have := (HO.out.lt g hg).1; omega)⟩
      · have HC : Hid (chg (a :: ws) = .error 226) := Lib.hid (by rw [chg_cons, HK.out, if_neg hK0, HF.out, if_pos (by have := HN.out; have := HM.out; simp at *; omega)])
        have ic : ((N : Int) != 1 + (tb.size : Int)) = true := by rw [bne_iff_ne]; omega
        clear hK0
        obtain ⟨e0, e1, e2, e3, e4, e5, e6, e7, fr⟩ := chC_cells hB1
        simp only [chg0] at e0 e1 e2 e3 e4 e5 e6 e7
        go_wp2
        refine close_rchg hB1 226 rfl rfl fun W8 hb8 ho8 => ⟨?_, hb8 _ _ hRw hbl1⟩
        rw [HC.out]
        exact ⟨chg0, none, 0, 0, rfl⟩
end Go.Proofs.YtpkmekdpmkfcdaaGreatDoor.Sr
namespace Go.Proofs.YtpkmekdpmkfcdaaGreatDoor.Sr
set_option linter.unusedVariables false
set_option linter.unusedSimpArgs false
open Go.RowKit Go.Proofs.YtpkmekdpmkfcdaaGreatDoor.Wd Go.Proofs.YtpkmekdpmkfcdaaGreatDoor.Px Go.Proofs.YtpkmekdpmkfcdaaGreatDoor.By Go.Proofs.YtpkmekdpmkfcdaaGreatDoor.En Go.Proofs.YtpkmekdpmkfcdaaGreatDoor.Pl Go.Proofs.YtpkmekdpmkfcdaaGreatDoor.Sc
open Go.Proofs.YtpkmekdpmkfcdaaGreatDoor.Pf (Cut strc one ofP)
theorem rchange_as {l : List (List UInt8)} {n : Nat} (hn : Hid (l.length = n)) (A : Option Addr) (c : Nat) (w : World) (hE : Env w) (hl : n ≤ 2000000) (hc : n ≤ c) (hs : Shows strc w w.heap.size A l) (hw : ∀ x ∈ l, x.length ≤ 2000000) :
    Calls Tryz.prog 61 #[.slice A n c] w fun e w' => ChgR (chg l) w e w' ∧ Below w.heap.size w w' := by
  have hn := hn.out
  subst hn
  exact rchange_any l A c w hE hl hc hs hw
set_option maxRecDepth 20000 in
set_option maxHeartbeats 1600000 in
theorem rchanges_in (l : List (List UInt8)) (A : Option Addr) (c : Nat) (w : World) (hE : Env w) (hl : l.length ≤ 2000000) (hc : l.length ≤ c) (hs : Shows strc w w.heap.size A l) (hw : ∀ x ∈ l, x.length ≤ 2000000) (hne : l ≠ []) :
    Calls Tryz.prog 34 #[.slice A l.length c] w fun e w' => ListR (chgs l) w e w' ∧ Below w.heap.size w w' := by
  obtain ⟨i0, hi0, hz0, hz1, hz2'⟩ := info_parts infoChg
  obtain ⟨N, hN⟩ : ∃ N, l.length = N := ⟨_, rfl⟩
  have hN0 : 0 < N := by rw [← hN]; exact List.length_pos_iff.2 hne
  rw [hN] at hl hc ⊢
  have HN := Lib.hid hN
  obtain ⟨bb, o, rfl, hbb, hcell⟩ := hs (by omega)
  have HS := LstAt.start hne
  have iN : ((N : Int) == 0) = false := by rw [beq_eq_false_iff_ne]; omega
  clear hN hne
  go_enter Tryz.func34, Tryz.ntmps34
  go_wp2
  go_loopw [4, 5, 6] (fun v f i wr => ∃ (p q k : Nat) (dn : List Chg) (kvs : List Value), q ≤ N + 1 ∧ p ≤ q ∧ f = .int .i64 (p : Int) ∧ i = .int .i64 (q : Int) ∧ Hid (LstAt l p q dn) ∧ Hid (dn.length = k) ∧ k ≤ q ∧ (∃ A c, v = .slice A k c) ∧ CRow w.heap.size v dn kvs wr ∧ Below w.heap.size w wr) (fun _ _ i _ => N + 1 - (intOf i).toNat)
  case atStart => exact ⟨0, 0, 0, [], [], Nat.zero_le _, Nat.le_refl _, rfl, rfl, HS, Lib.hid rfl, Nat.le_refl _, ⟨_, _, rfl⟩, CRow.nil _ _, Below.refl _ _⟩
  case round =>
    obtain ⟨p, q, k, dn, kvs, hq, hpq, rfl, rfl, HG, HK, hkq, ⟨Av, cv, rfl⟩, hrow, hbl⟩ := hrel
    clear HS
    have j0 : (0 : Int) < (N : Int) := by omega
    by_cases hend : q = N + 1
    · have i1 : ¬ (q : Int) ≤ (N : Int) := by omega
      have HD : Hid (chgs l = .ok dn) := Lib.hid (by
        rcases HG.out with ⟨h1, -⟩ | ⟨-, h2⟩
        · have := HN.out; omega
        · exact h2)
      have hk := HK.out
      subst hk
      clear hend
      go_wp2
      go_ret2
      exact ⟨by rw [HD.out]; exact ⟨_, _, _, rfl, hrow⟩, hbl⟩
    · have hqN : q ≤ N := by omega
      have i1 : (q : Int) ≤ (N : Int) := by omega
      -- BODY
      by_cases hlt : q < N
      · obtain ⟨x, hx⟩ : ∃ x, l[q]? = some x := ⟨_, List.getElem?_eq_getElem (by rw [HN.out]; exact hlt)⟩
        have cc := (hbl.cell (p := ⟨bb, o + q, none⟩) hbb).trans (hcell q x hx)
        unfold strc at cc
        have i2 : (q : Int) < (N : Int) := by omega
        have i4 : ((q : Int) == (N : Int)) = false := by rw [beq_eq_false_iff_ne]; omega
        by_cases hcm : x = [44]
        · have HQ : Hid (l[q]? = some [44]) := Lib.hid (by rw [hx, hcm])
          have ex : (x == [44]) = true := by rw [beq_iff_eq]; exact hcm
          clear hx hcm hend
          obtain ⟨A2, c2, hcut, hc2, hs2⟩ := cut_mid hs HN.out hc p q hpq hqN
          have hcut' := fun W => hcut W (p : Int) (q : Int) rfl rfl
          have hlen : ((l.take q).drop p).length = q - p := by rw [List.length_drop, List.length_take]; have := HN.out; omega
          have HLEN := Lib.hid hlen
          have hw2 : ∀ x ∈ (l.take q).drop p, x.length ≤ 2000000 := fun x hx => hw x (List.mem_of_mem_take (List.mem_of_mem_drop hx))
          have hs3 : Shows strc wr wr.heap.size A2 ((l.take q).drop p) := (hs2.below hbl).more hbl.size
          have hE1 := hE.on hbl
          obtain ⟨sub, hsub⟩ : ∃ s, (l.take q).drop p = s := ⟨_, rfl⟩
          rw [hsub] at hs3 hw2 HLEN
          have HSUB := Lib.hid hsub
          clear hcut hlen hsub hs2
          go_wp2_with fail
          refine (rchange_as HLEN A2 c2 wr hE1 (by omega) hc2 hs3 hw2).mono ?_
          rintro e w3 ⟨hres, hb3⟩
          have hrow3 := hrow.on hb3
          have hbl3 := hbl.trans (hb3.mono hbl.size)
          have hs33 : wr.heap.size ≤ w3.heap.size := hb3.size
          have hold : ∀ (i : Nat) u g, kvs[i]? = some u → u.ownBlock = some g → g < wr.heap.size := fun i u g hu hg => by
            obtain ⟨d, hd⟩ : ∃ d, dn[i]? = some d := ⟨_, List.getElem?_eq_getElem (by rw [← hrow.len]; exact (List.getElem?_eq_some_iff.1 hu).1)⟩
            exact ((hrow.own i d u hd hu).lt g hg).2
          clear hb3 hE1 hs3 cc
          cases ho1 : chg sub with
          | error x =>
            rw [ho1] at hres
            obtain ⟨ch, Ae, ne, ke, rfl⟩ := hres
            have hx0 : (x != 0) = true := by rw [bne_iff_ne]; exact chg_err ho1
            have HE : Hid (chgs l = .error x) := Lib.hid (HG.out.bad (.inl HQ.out) (by rw [HSUB.out]; exact ho1))
            have hz := hbl3.alloc hbl3.size (.cells (chC ch (.slice Ae ne ke)) 92)
            simp only [chC] at hz ⊢
            clear ho1 hcut'
            go_wp2
            go_ret2
            exact ⟨by rw [HE.out]; exact rfl, hz⟩
          | ok ch =>
            rw [ho1] at hres
            obtain ⟨Ae, ke, rfl, hoe⟩ := hres
            have HX : Hid (LstAt l (q + 1) (q + 1) (dn ++ [ch])) := Lib.hid (HG.out.comma HQ.out (by rw [HSUB.out]; exact ho1))
            have hoe3 := own_low hoe hbl.size
            have hapn : ∀ (i : Nat) u g, kvs[i]? = some u → u.ownBlock = some g → (Value.slice Ae ch.key.length ke).ownBlock ≠ some g := fun i u g hu hg e => by
              have h1 := hold i u g hu hg
              have h2 := (hoe.lt g e).1
              omega
            have hrow4 := hrow3.on (one w3 (.cells (chC ch (.slice Ae ch.key.length ke)) 92))
            have hoe4 := own_on hoe3 (one w3 (.cells (chC ch (.slice Ae ch.key.length ke)) 92))
            have hbl4 := hbl3.alloc hbl3.size (.cells (chC ch (.slice Ae ch.key.length ke)) 92)
            have hB4 := blk_new w3 (chC ch (.slice Ae ch.key.length ke)) 92
            obtain ⟨e0, e1, e2, e3, e4, e5, e6, e7, fr⟩ := chC_cells hB4
            have hrw := hrow4.row
            rw [HK.out] at hrw
            clear ho1 hcut' hoe hoe3 hrow3 hbl3 hB4 hold
            simp only [chC] at hrow4 hoe4 hbl4 e0 e1 e2 e3 e4 e5 e6 e7 fr hrw ⊢
            have hsz4 : w.heap.size ≤ w3.heap.size + 1 := by have := hbl4.size; simpa using this
            go_wp2_with (at_builtin; go_loud (refine wpList_append_own _ rfl _ _ 22 rfl w.heap.size 92 i0 (.agg (chC chg0 (.slice none 0 0))) 8 80 Tryz.underlying22 hi0 hz0 hz1 hz2' rfl (by decide) _ _ _ rfl (hrw.alloc _) ⟨w3.heap.size + 1, 0, none⟩ 1 1 [_, _, _, _, _, _, _, _] rfl rfl (cells_at (by simp) _ _) ?c2 ?c3 ?c4 ?c5 ?_))
            case c2 => intro u hu; simp at hu; rcases hu with rfl | rfl | rfl | rfl | rfl | rfl | rfl | rfl <;> rfl
            case c3 => unfold maxLen; omega
            case c4 => omega
            case c5 => simp; omega
            intro v' w5 hown' hgrow _
            have hrow5 := hrow4.add hoe4 hapn _ (by rw [HK.out]; exact hown') hgrow
            have hbk5 := (hbl4.alloc hbl4.size _).grown hgrow (by have := hbl4.size; simp at this ⊢; omega) (fun j hj => (hrw.lt j hj).1)
            obtain ⟨A', c', rfl, -⟩ := own_sl hown'
            clear hrow4 hoe4 hbl4 hgrow hown' hrw e0 e1 e2 e3 e4 e5 e6 e7 fr hrow
            go_wp2
            go_roundw
            case rel => exact ⟨q + 1, q + 1, k + 1, _, _, by omega, Nat.le_refl _, by go_num, by go_num, HX, Lib.hid (by rw [List.length_append, HK.out]; rfl), by omega, ⟨_, _, rfl⟩, hrow5, hbk5⟩
            case measure => simp [intOf]; omega
        · have HX := Lib.hid (HG.out.word hx hcm)
          have ex : (x == [44]) = false := by rw [beq_eq_false_iff_ne]; exact hcm
          clear hx hcm hend
          go_wp2
          go_roundw
          case rel => exact ⟨p, q + 1, k, dn, kvs, by omega, by omega, rfl, by go_num, HX, HK, by omega, ⟨_, _, rfl⟩, hrow, hbl⟩
          case measure => simp [intOf]; omega
      · have i2 : ¬ (q : Int) < (N : Int) := by omega
        have i4 : ((q : Int) == (N : Int)) = true := by rw [beq_iff_eq]; omega
        have HQ : Hid (q = l.length) := Lib.hid (by rw [HN.out]; omega)
        have cc : True := trivial
        clear hend
        obtain ⟨A2, c2, hcut, hc2, hs2⟩ := cut_mid hs HN.out hc p q hpq hqN
        have hcut' := fun W => hcut W (p : Int) (q : Int) rfl rfl
        have hlen : ((l.take q).drop p).length = q - p := by rw [List.length_drop, List.length_take]; have := HN.out; omega
        have HLEN := Lib.hid hlen
        have hw2 : ∀ x ∈ (l.take q).drop p, x.length ≤ 2000000 := fun x hx => hw x (List.mem_of_mem_take (List.mem_of_mem_drop hx))
        have hs3 : Shows strc wr wr.heap.size A2 ((l.take q).drop p) := (hs2.below hbl).more hbl.size
        have hE1 := hE.on hbl
        obtain ⟨sub, hsub⟩ : ∃ s, (l.take q).drop p = s := ⟨_, rfl⟩
        rw [hsub] at hs3 hw2 HLEN
        have HSUB := Lib.hid hsub
        clear hcut hlen hsub hs2
        go_wp2_with fail
        refine (rchange_as HLEN A2 c2 wr hE1 (by omega) hc2 hs3 hw2).mono ?_
        rintro e w3 ⟨hres, hb3⟩
        have hrow3 := hrow.on hb3
        have hbl3 := hbl.trans (hb3.mono hbl.size)
        have hs33 : wr.heap.size ≤ w3.heap.size := hb3.size
        have hold : ∀ (i : Nat) u g, kvs[i]? = some u → u.ownBlock = some g → g < wr.heap.size := fun i u g hu hg => by
          obtain ⟨d, hd⟩ : ∃ d, dn[i]? = some d := ⟨_, List.getElem?_eq_getElem (by rw [← hrow.len]; exact (List.getElem?_eq_some_iff.1 hu).1)⟩
          exact ((hrow.own i d u hd hu).lt g hg).2
        clear hb3 hE1 hs3 cc
        cases ho1 : chg sub with
        | error x =>
          rw [ho1] at hres
          obtain ⟨ch, Ae, ne, ke, rfl⟩ := hres
          have hx0 : (x != 0) = true := by rw [bne_iff_ne]; exact chg_err ho1
          have HE : Hid (chgs l = .error x) := Lib.hid (HG.out.bad (.inr HQ.out) (by rw [HSUB.out]; exact ho1))
          have hz := hbl3.alloc hbl3.size (.cells (chC ch (.slice Ae ne ke)) 92)
          simp only [chC] at hz ⊢
          clear ho1 hcut'
          go_wp2
          go_ret2
          exact ⟨by rw [HE.out]; exact rfl, hz⟩
        | ok ch =>
          rw [ho1] at hres
          obtain ⟨Ae, ke, rfl, hoe⟩ := hres
          have HX : Hid (LstAt l (q + 1) (q + 1) (dn ++ [ch])) := Lib.hid (HG.out.last HQ.out (by rw [HSUB.out]; exact ho1))
          have hoe3 := own_low hoe hbl.size
          have hapn : ∀ (i : Nat) u g, kvs[i]? = some u → u.ownBlock = some g → (Value.slice Ae ch.key.length ke).ownBlock ≠ some g := fun i u g hu hg e => by
            have h1 := hold i u g hu hg
            have h2 := (hoe.lt g e).1
            omega
          have hrow4 := hrow3.on (one w3 (.cells (chC ch (.slice Ae ch.key.length ke)) 92))
          have hoe4 := own_on hoe3 (one w3 (.cells (chC ch (.slice Ae ch.key.length ke)) 92))
          have hbl4 := hbl3.alloc hbl3.size (.cells (chC ch (.slice Ae ch.key.length ke)) 92)
          have hB4 := blk_new w3 (chC ch (.slice Ae ch.key.length ke)) 92
          obtain ⟨e0, e1, e2, e3, e4, e5, e6, e7, fr⟩ := chC_cells hB4
          have hrw := hrow4.row
          rw [HK.out] at hrw
          clear ho1 hcut' hoe hoe3 hrow3 hbl3 hB4 hold
          simp only [chC] at hrow4 hoe4 hbl4 e0 e1 e2 e3 e4 e5 e6 e7 fr hrw ⊢
          have hsz4 : w.heap.size ≤ w3.heap.size + 1 := by have := hbl4.size; simpa using this
          go_wp2_with (at_builtin; go_loud (refine wpList_append_own _ rfl _ _ 22 rfl w.heap.size 92 i0 (.agg (chC chg0 (.slice none 0 0))) 8 80 Tryz.underlying22 hi0 hz0 hz1 hz2' rfl (by decide) _ _ _ rfl (hrw.alloc _) ⟨w3.heap.size + 1, 0, none⟩ 1 1 [_, _, _, _, _, _, _, _] rfl rfl (cells_at (by simp) _ _) ?c2 ?c3 ?c4 ?c5 ?_))
          case c2 => intro u hu; simp at hu; rcases hu with rfl | rfl | rfl | rfl | rfl | rfl | rfl | rfl <;> rfl
          case c3 => unfold maxLen; omega
          case c4 => omega
          case c5 => simp; omega
          intro v' w5 hown' hgrow _
          have hrow5 := hrow4.add hoe4 hapn _ (by rw [HK.out]; exact hown') hgrow
          have hbk5 := (hbl4.alloc hbl4.size _).grown hgrow (by have := hbl4.size; simp at this ⊢; omega) (fun j hj => (hrw.lt j hj).1)
          obtain ⟨A', c', rfl, -⟩ := own_sl hown'
          clear hrow4 hoe4 hbl4 hgrow hown' hrw e0 e1 e2 e3 e4 e5 e6 e7 fr hrow
          go_wp2
          go_roundw
          case rel => exact ⟨q + 1, q + 1, k + 1, _, _, by omega, Nat.le_refl _, by go_num, by go_num, HX, Lib.hid (by rw [List.length_append, HK.out]; rfl), by omega, ⟨_, _, rfl⟩, hrow5, hbk5⟩
          case measure => simp [intOf]; omega
theorem rchanges_any (l : List (List UInt8)) (A : Option Addr) (c : Nat) (w : World) (hE : Env w) (hl : l.length ≤ 2000000) (hc : l.length ≤ c) (hs : Shows strc w w.heap.size A l) (hw : ∀ x ∈ l, x.length ≤ 2000000) :
    Calls Tryz.prog 34 #[.slice A l.length c] w fun e w' => ListR (chgs l) w e w' ∧ Below w.heap.size w w' := by
  by_cases hne : l = []
  · subst hne
    go_enter Tryz.func34, Tryz.ntmps34
    go_wp2
    go_ret2
    exact ⟨⟨none, 0, [], rfl, CRow.nil _ _⟩, Below.refl _ _⟩
  · exact rchanges_in l A c w hE hl hc hs hw hne
end Go.Proofs.YtpkmekdpmkfcdaaGreatDoor.Sr
namespace Go.Proofs.YtpkmekdpmkfcdaaGreatDoor.Sr
set_option linter.unusedVariables false
set_option linter.unusedSimpArgs false
open Go.RowKit Go.Proofs.YtpkmekdpmkfcdaaGreatDoor.Wd Go.Proofs.YtpkmekdpmkfcdaaGreatDoor.Px Go.Proofs.YtpkmekdpmkfcdaaGreatDoor.By Go.Proofs.YtpkmekdpmkfcdaaGreatDoor.En Go.Proofs.YtpkmekdpmkfcdaaGreatDoor.Pl Go.Proofs.YtpkmekdpmkfcdaaGreatDoor.Sc
open Go.Proofs.YtpkmekdpmkfcdaaGreatDoor.Pf (Cut strc one ofP index_spec hexd_index)
theorem rchanges_as {l : List (List UInt8)} {n : Nat} (hn : Hid (l.length = n)) {r : Except Int (List Chg)} (hr : Hid (chgs l = r)) (A : Option Addr) (c : Nat) (w : World) (hE : Env w) (hl : n ≤ 2000000) (hc : n ≤ c) (hs : Shows strc w w.heap.size A l) (hw : ∀ x ∈ l, x.length ≤ 2000000) :
    Calls Tryz.prog 34 #[.slice A n c] w fun e w' => ListR r w e w' ∧ Below w.heap.size w w' := by
  have hn := hn.out
  subst hn
  have := rchanges_any l A c w hE hl hc hs hw
  rwa [hr.out] at this
end Go.Proofs.YtpkmekdpmkfcdaaGreatDoor.Sr
