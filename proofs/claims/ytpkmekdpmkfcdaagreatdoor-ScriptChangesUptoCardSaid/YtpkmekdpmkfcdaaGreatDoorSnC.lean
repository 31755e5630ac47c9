/- Contract of the reference: a change as words. Contracts of the reference: a change and a list of changes as a text. Law: texts and lists of changes, by the program and by the reference. -/
import Derived.Test.YtpkmekdpmkfcdaaGreatDoorSnB
import Derived.Test.YtpkmekdpmkfcdaaGreatDoorSsJ
import Derived.Test.YtpkmekdpmkfcdaaGreatDoorSsF
namespace Go.Proofs.YtpkmekdpmkfcdaaGreatDoor.Sr
set_option linter.unusedVariables false
set_option linter.unusedSimpArgs false
open Go.RowKit Go.Proofs.YtpkmekdpmkfcdaaGreatDoor.Wd Go.Proofs.YtpkmekdpmkfcdaaGreatDoor.Px Go.Proofs.YtpkmekdpmkfcdaaGreatDoor.By Go.Proofs.YtpkmekdpmkfcdaaGreatDoor.En Go.Proofs.YtpkmekdpmkfcdaaGreatDoor.Pl Go.Proofs.YtpkmekdpmkfcdaaGreatDoor.Pf Go.Proofs.YtpkmekdpmkfcdaaGreatDoor.Sc

theorem rcut_as {n : Nat} (hn : n ≤ 1048576) (A : Option Addr) (c : Nat) (w : World) : Calls Tryz.prog 74 #[.slice A n c] w fun e w' => e = .returned (.slice A n c) ∧ w' = w := by
  have i1 : ¬ (1048576 : Int) < (n : Int) := by omega
  go_enter Tryz.func74, Tryz.ntmps74
  go_wp2
  go_ret
  exact ⟨rfl, rfl⟩
theorem rhexp_as {b t : List UInt8} {n : Nat} (h : Hid (hexO b = t)) (hn : Hid (b.length = n)) (A : Option Addr) (c : Nat) (w : World) (hb : n ≤ 2000000) (hc : n ≤ c) (hs : Shows cel w w.heap.size A b) :
    Calls Tryz.prog 73 #[.slice A n c] w fun e w' => e = .returned (.string ⟨t.toArray⟩) ∧ Below w.heap.size w w' := by
  have hn := hn.out
  subst hn
  have := rhexp_any b A c w hb hc hs
  rwa [h.out] at this
theorem shows_after {α : Type} {f : α → Value} {w0 : World} {A : Option Addr} {l : List α} (hs : Shows f w0 w0.heap.size A l) (x : After w0) : Shows f x.w x.w.heap.size A l := (hs.below x.b).more x.b.size
theorem rbounded_as {n : Int} {b : Bool} (h : Hid (numOk n = b)) (w : World) : Calls Tryz.prog 71 #[.int .i64 n] w fun e w' => e = .returned (.bool b) ∧ w' = w := by
  have := rbounded_any n w
  rwa [h.out] at this
theorem samep_as {f h l b : Int} {z : Bool} (hz : Hid (smP f h l b 0 0 0 0 = z)) (w : World) :
    Calls Tryz.prog 63 #[.agg #[.int .i64 f, .int .u64 h, .int .u64 l, .int .i64 b], .agg #[.int .i64 0, .int .u64 0, .int .u64 0, .int .i64 0]] w fun e w' => e = .returned (.bool z) ∧ Below w.heap.size w w' := by
  have := samepre_any f h l b 0 0 0 0 w
  rwa [hz.out] at this
theorem rprintp_as {f : Int} {hi lo : Nat} {b : Int} {t : List UInt8} (h : Hid (pX f hi lo b = t)) (w : World) (hE : Env w) (hh : hi < 18446744073709551616) (hl : lo < 18446744073709551616) :
    Calls Tryz.prog 75 #[.agg #[.int .i64 f, .int .u64 hi, .int .u64 lo, .int .i64 b]] w fun e w' => e = .returned (.string ⟨t.toArray⟩) ∧ Below w.heap.size w w' := by
  have := Pf.rprint_any f hi lo b w hE hh hl
  rw [← pX_pT hh hl, h.out] at this
  exact this
theorem smP_zero {f : Int} {h l : Nat} {b : Int} : smP f h l b 0 0 0 0 = decide (f = 0 ∧ h = 0 ∧ l = 0 ∧ b = 0) := by
  rw [Bool.eq_iff_iff]
  simp [smP, smA]
  omega
theorem chg_letters {K : Nat} (h1 : 1 ≤ K) (h5 : K ≤ 5) : (chgFormR K == [108, 107, 115]) = decide (72 ∈ chgForm K) ∧ (chgFormR K == [108, 112]) = decide (80 ∈ chgForm K) ∧ ¬ (decide (72 ∈ chgForm K) = true ∧ decide (80 ∈ chgForm K) = true) ∧ ∃ nm, ([] :: chgNames)[K]? = some nm ∧ chgNames.getD (K - 1) [] = nm ∧ nm.length ≤ 10 := by
  have : K = 1 ∨ K = 2 ∨ K = 3 ∨ K = 4 ∨ K = 5 := by omega
  rcases this with rfl | rfl | rfl | rfl | rfl <;> exact ⟨by decide, by decide, by decide, _, rfl, rfl, by decide⟩

theorem spare_iff {key : List UInt8} {N : Nat} {sd : Int} {kb pb z : Bool} {P : Prop} [Decidable P] (hz : z = decide P) (hn : key.length = N) :
    ((kb = false ∧ (key ≠ [] ∨ sd ≠ 0)) ∨ (pb = false ∧ ¬ P)) ↔ ((!kb && (decide (0 < N) || decide (sd ≠ 0))) || (!pb && !z)) = true := by
  subst hz hn
  cases kb <;> cases pb <;> simp [List.length_pos_iff]
theorem ret_str2 {a b : ByteArray} (h : a = b) : Ending.returned (.tuple #[.string a, .int .i64 0]) = .returned (.tuple #[.string b, .int .i64 0]) := by rw [h]
theorem pX_len {f : Int} {h l : Nat} {b : Int} (hh : h < 18446744073709551616) (hl : l < 18446744073709551616) : (pX f h l b).length ≤ 43 := by rw [pX_pT hh hl]; exact pT_len f h l b
theorem pX_ne {f : Int} {h l : Nat} {b : Int} (hh : h < 18446744073709551616) (hl : l < 18446744073709551616) (hv : vP f h l b = true) : pX f h l b ≠ [] := by rw [pX_pT hh hl, pT_yes hv]; simp
theorem pX_no {f : Int} {h l : Nat} {b : Int} (hv : vP f h l b = false) : pX f h l b = [] := by unfold pX; rw [if_neg (by rw [hv]; simp)]

set_option maxRecDepth 100000 in
set_option maxHeartbeats 4000000 in
theorem rput_in (K : Nat) (lk sd : Int) (key : List UInt8) (pf : Int) (ph pl : Nat) (pq : Int) (A : Option Addr) (N cc : Nat) (w : World) (hE : Env w) (h1 : 1 ≤ K) (h5 : K ≤ 5) (HNN : Hid (key.length = N)) (hl : N ≤ 1048576) (hc : N ≤ cc) (hs : Shows cel w w.heap.size A key) (hph : ph < 18446744073709551616) (hpl : pl < 18446744073709551616) (jr : Except Int (List UInt8)) (HJ : Hid (joined (chgT ⟨(K : Int), lk, sd, key, pf, ph, pl, pq⟩) = jr)) :
    Calls Tryz.prog 39 #[.agg #[.int .i64 (K : Int), .int .i64 lk, .int .i64 sd, .slice A N cc, .int .i64 pf, .int .u64 (ph : Int), .int .u64 (pl : Int), .int .i64 pq]] w fun e w' => TextR jr e ∧ Below w.heap.size w w' := by
  obtain ⟨hk1, hk2, hnot, nm, hnm, hnm2, hnl⟩ := chg_letters h1 h5
  obtain ⟨f, hf⟩ : ∃ f, chgForm K = f := ⟨_, rfl⟩
  obtain ⟨g, hg⟩ : ∃ g, chgFormR K = g := ⟨_, rfl⟩
  rw [hg] at hk1 hk2
  rw [hf] at hk1 hk2 hnot
  obtain ⟨kb, hkb⟩ : ∃ b, decide (72 ∈ f) = b := ⟨_, rfl⟩
  obtain ⟨pb, hpb⟩ : ∃ b, decide (80 ∈ f) = b := ⟨_, rfl⟩
  obtain ⟨z, hz⟩ : ∃ z, smP pf (ph : Int) (pl : Int) pq 0 0 0 0 = z := ⟨_, rfl⟩
  have hTT := chgT_eq (c := ⟨(K : Int), lk, sd, key, pf, ph, pl, pq⟩) (f := f) (nm := nm) (by simp only; omega) (by simp only [Int.toNat_natCast]; exact hf) (by simp only [Int.toNat_natCast]; exact hnm2) hkb hpb
  simp only at hTT
  have hzz : z = decide (pf = 0 ∧ ph = 0 ∧ pl = 0 ∧ pq = 0) := by rw [← hz]; exact smP_zero
  rw [hkb] at hk1 hnot
  rw [hpb] at hk2 hnot
  have hform : ∀ wq : World, Calls Tryz.prog 70 #[.int .i64 (K : Int)] wq fun e w' => e = .returned (.string ⟨g.toArray⟩) ∧ Below wq.heap.size wq w' := fun wq => by
    have := rchgform_as (K := K) h1 h5 wq
    rwa [hg] at this
  obtain ⟨sp, hsp⟩ : ∃ sp : Bool, ((!kb && (decide (0 < N) || decide (sd ≠ 0))) || (!pb && !z)) = sp := ⟨_, rfl⟩
  have HSP := Lib.hid hsp
  have HZ := Lib.hid hz
  have HZZ := Lib.hid hzz
  have HT := Lib.hid hTT
  have HNM := Lib.hid hnm
  have HNL := Lib.hid hnl
  have HNOT := Lib.hid hnot
  have j1 : ¬ ((K : Int) < 1) := by omega
  have j2 : ¬ (5 < (K : Int)) := by omega
  clear hTT hnm hnm2 hnl hnot hsp hz hzz hkb hpb hg hf
  have hb0 := one w (.cells #[.int .i64 (K : Int), .int .i64 lk, .int .i64 sd, .slice A N cc, .int .i64 pf, .int .u64 (ph : Int), .int .u64 (pl : Int), .int .i64 pq] 92)
  have hC0 : Blk w.heap.size #[.int .i64 (K : Int), .int .i64 lk, .int .i64 sd, .slice A N cc, .int .i64 pf, .int .u64 (ph : Int), .int .u64 (pl : Int), .int .i64 pq] 92 (w.alloc (.cells #[.int .i64 (K : Int), .int .i64 lk, .int .i64 sd, .slice A N cc, .int .i64 pf, .int .u64 (ph : Int), .int .u64 (pl : Int), .int .i64 pq] 92)) := blk_new w _ _
  go_enter Tryz.func39, Tryz.ntmps39
  go_upto_region 3 with fail
  generalize w.alloc (.cells #[.int .i64 (K : Int), .int .i64 lk, .int .i64 sd, .slice A N cc, .int .i64 pf, .int .u64 (ph : Int), .int .u64 (pl : Int), .int .i64 pq] 92) = W0 at hb0 hC0 ⊢
  have e0 : W0.cell? ⟨w.heap.size, 0, none⟩ = some (.int .i64 (K : Int)) := hC0.cell rfl
  have e1 : W0.cell? ⟨w.heap.size, 1, none⟩ = some (.int .i64 lk) := hC0.cell rfl
  have e2 : W0.cell? ⟨w.heap.size, 2, none⟩ = some (.int .i64 sd) := hC0.cell rfl
  have e3 : W0.cell? ⟨w.heap.size, 3, none⟩ = some (.slice A N cc) := hC0.cell rfl
  have e4 : W0.cell? ⟨w.heap.size, 4, none⟩ = some (.int .i64 pf) := hC0.cell rfl
  have e5 : W0.cell? ⟨w.heap.size, 5, none⟩ = some (.int .u64 (ph : Int)) := hC0.cell rfl
  have e6 : W0.cell? ⟨w.heap.size, 6, none⟩ = some (.int .u64 (pl : Int)) := hC0.cell rfl
  have e7 : W0.cell? ⟨w.heap.size, 7, none⟩ = some (.int .i64 pq) := hC0.cell rfl
  go_upto_region 7 with (first
    | (go_at_call 70; refine (hform _).mono ?_; rintro e w2 ⟨rfl, hb2⟩; have hC2 := hC0.on hb2; have hb3 := hb0.trans (hb2.mono hb0.size); clear e0 e1 e2 e3 e4 e5 e6 e7 hC0 hb0 hb2; have e0 : w2.cell? ⟨w.heap.size, 0, none⟩ = some (.int .i64 (K : Int)) := hC2.cell rfl; have e1 : w2.cell? ⟨w.heap.size, 1, none⟩ = some (.int .i64 lk) := hC2.cell rfl; have e2 : w2.cell? ⟨w.heap.size, 2, none⟩ = some (.int .i64 sd) := hC2.cell rfl; have e3 : w2.cell? ⟨w.heap.size, 3, none⟩ = some (.slice A N cc) := hC2.cell rfl; have e4 : w2.cell? ⟨w.heap.size, 4, none⟩ = some (.int .i64 pf) := hC2.cell rfl; have e5 : w2.cell? ⟨w.heap.size, 5, none⟩ = some (.int .u64 (ph : Int)) := hC2.cell rfl; have e6 : w2.cell? ⟨w.heap.size, 6, none⟩ = some (.int .u64 (pl : Int)) := hC2.cell rfl; have e7 : w2.cell? ⟨w.heap.size, 7, none⟩ = some (.int .i64 pq) := hC2.cell rfl)
    | (go_at_call 63; refine (samep_as HZ _).mono ?_; rintro e w4 ⟨rfl, hb4⟩; have hC4 := hC2.on hb4; have hb5 := hb3.trans (hb4.mono hb3.size); clear e0 e1 e2 e3 e4 e5 e6 e7 hC2 hb3 hb4; have e0 : w4.cell? ⟨w.heap.size, 0, none⟩ = some (.int .i64 (K : Int)) := hC4.cell rfl; have e1 : w4.cell? ⟨w.heap.size, 1, none⟩ = some (.int .i64 lk) := hC4.cell rfl; have e2 : w4.cell? ⟨w.heap.size, 2, none⟩ = some (.int .i64 sd) := hC4.cell rfl; have e3 : w4.cell? ⟨w.heap.size, 3, none⟩ = some (.slice A N cc) := hC4.cell rfl; have e4 : w4.cell? ⟨w.heap.size, 4, none⟩ = some (.int .i64 pf) := hC4.cell rfl; have e5 : w4.cell? ⟨w.heap.size, 5, none⟩ = some (.int .u64 (ph : Int)) := hC4.cell rfl; have e6 : w4.cell? ⟨w.heap.size, 6, none⟩ = some (.int .u64 (pl : Int)) := hC4.cell rfl; have e7 : w4.cell? ⟨w.heap.size, 7, none⟩ = some (.int .i64 pq) := hC4.cell rfl))
  clear hk1 hk2 hform
  go_cut [49] (fun v wx => v = .bool sp ∧ Hid (Blk w.heap.size #[.int .i64 (K : Int), .int .i64 lk, .int .i64 sd, .slice A N cc, .int .i64 pf, .int .u64 (ph : Int), .int .u64 (pl : Int), .int .i64 pq] 92 wx ∧ Below w.heap.size w wx))
  case first =>
    by_cases hN0 : N = 0
    · subst hN0
      by_cases hs0 : sd = 0
      · subst hs0
        cases kb <;> cases pb <;> cases z
        all_goals
          go_wp2_with fail
          go_meet
          exact ⟨by rw [← HSP.out]; rfl, Lib.hid ⟨hC4, hb5⟩⟩
      · have hs1 : (sd != 0) = true := by rw [bne_iff_ne]; exact hs0
        have hs2 : decide (sd ≠ 0) = true := decide_eq_true hs0
        cases kb <;> cases pb <;> cases z
        all_goals
          go_wp2_with fail
          go_meet
          exact ⟨by rw [← HSP.out]; simp [hs0], Lib.hid ⟨hC4, hb5⟩⟩
    · have hn1 : (0 : Int) < (N : Int) := by omega
      have hn2 : 0 < N := by omega
      cases kb <;> cases pb <;> cases z
      all_goals
        go_wp2_with fail
        go_meet
        exact ⟨by rw [← HSP.out]; simp [hn2], Lib.hid ⟨hC4, hb5⟩⟩
  obtain ⟨rfl, HX⟩ := hcut
  obtain ⟨hC7, hb7⟩ := HX.out
  clear HX hC4 hb5 e0 e1 e2 e3 e4 e5 e6 e7
  have e0 : wc.cell? ⟨w.heap.size, 0, none⟩ = some (.int .i64 (K : Int)) := hC7.cell rfl
  have e1 : wc.cell? ⟨w.heap.size, 1, none⟩ = some (.int .i64 lk) := hC7.cell rfl
  have e2 : wc.cell? ⟨w.heap.size, 2, none⟩ = some (.int .i64 sd) := hC7.cell rfl
  have e3 : wc.cell? ⟨w.heap.size, 3, none⟩ = some (.slice A N cc) := hC7.cell rfl
  have e4 : wc.cell? ⟨w.heap.size, 4, none⟩ = some (.int .i64 pf) := hC7.cell rfl
  have e5 : wc.cell? ⟨w.heap.size, 5, none⟩ = some (.int .u64 (ph : Int)) := hC7.cell rfl
  have e6 : wc.cell? ⟨w.heap.size, 6, none⟩ = some (.int .u64 (pl : Int)) := hC7.cell rfl
  have e7 : wc.cell? ⟨w.heap.size, 7, none⟩ = some (.int .i64 pq) := hC7.cell rfl
  have HSI := Lib.hid (spare_iff (key := key) (sd := sd) (kb := kb) (pb := pb) HZZ.out HNN.out)
  rw [HSP.out] at HSI
  clear HSP HZ HZZ
  cases sp with
  | true =>
    have HE : Hid (jr = .error 228) := Lib.hid (by rw [← HJ.out, HT.out, if_pos (HSI.out.2 rfl)]; rfl)
    clear HT HJ HSI
    go_wp2
    go_ret2
    exact ⟨by rw [HE.out]; exact rfl, hb7⟩
  | false =>
    have HNS : Hid (¬ ((kb = false ∧ (key ≠ [] ∨ sd ≠ 0)) ∨ (pb = false ∧ ¬ (pf = 0 ∧ ph = 0 ∧ pl = 0 ∧ pq = 0)))) := Lib.hid (fun h => absurd (HSI.out.1 h) (by simp))
    clear HSI
    obtain ⟨bl, hbl⟩ : ∃ x, numOk lk = x := ⟨_, rfl⟩
    obtain ⟨bs, hbs⟩ : ∃ x, numOk sd = x := ⟨_, rfl⟩
    have HBL := Lib.hid hbl
    have HBS := Lib.hid hbs
    rw [hbl, hbs] at HT
    clear hbl hbs
    cases bl with
    | false =>
      have HE : Hid (jr = .error 223) := Lib.hid (by rw [← HJ.out, HT.out, if_neg HNS.out, if_pos (.inl rfl)]; rfl)
      clear HT HJ HNS
      go_wp2_with (go_at_call 71; first | (with_reducible refine (rbounded_as HBL _).mono ?_; rintro e w9 ⟨rfl, hw9⟩; rw [hw9]; clear hw9) | (with_reducible refine (rbounded_as HBS _).mono ?_; rintro e w9 ⟨rfl, hw9⟩; rw [hw9]; clear hw9))
      go_ret2
      exact ⟨by rw [HE.out]; exact rfl, hb7⟩
    | true =>
      cases bs with
      | false =>
        have HE : Hid (jr = .error 223) := Lib.hid (by rw [← HJ.out, HT.out, if_neg HNS.out, if_pos (.inr rfl)]; rfl)
        clear HT HJ HNS
        go_wp2_with (go_at_call 71; first | (with_reducible refine (rbounded_as HBL _).mono ?_; rintro e w9 ⟨rfl, hw9⟩; rw [hw9]; clear hw9) | (with_reducible refine (rbounded_as HBS _).mono ?_; rintro e w9 ⟨rfl, hw9⟩; rw [hw9]; clear hw9))
        go_ret2
        exact ⟨by rw [HE.out]; exact rfl, hb7⟩
      | true =>
        obtain ⟨tl, htl⟩ : ∃ t, decW lk = t := ⟨_, rfl⟩
        obtain ⟨ts, hts⟩ : ∃ t, decW sd = t := ⟨_, rfl⟩
        obtain ⟨th, hth⟩ : ∃ t, hexO key = t := ⟨_, rfl⟩
        obtain ⟨tp, htp⟩ : ∃ t, pX pf ph pl pq = t := ⟨_, rfl⟩
        obtain ⟨t1, ht1⟩ : ∃ t, nm ++ 32 :: tl = t := ⟨_, rfl⟩
        have k1 : tl.length ≤ 10 := by rw [← htl]; exact decW_len HBL.out
        have k2 : ts.length ≤ 10 := by rw [← hts]; exact decW_len HBS.out
        have k3 : th.length ≤ 2097153 := by rw [← hth]; have := hexO_len key; have := HNN.out; omega
        have k4 : tp.length ≤ 43 := by rw [← htp]; exact pX_len hph hpl
        have k0 : nm.length ≤ 10 := HNL.out
        have k5 : t1.length ≤ 21 := by rw [← ht1, List.length_append, List.length_cons]; omega
        have HTT : Hid (jr = joined (if pb = true ∧ vP pf ph pl pq = false then .error 70 else .ok ([nm, tl] ++ (if kb = true then [th, ts] else []) ++ (if pb = true then [tp] else [])))) := Lib.hid (by rw [← HJ.out, HT.out, if_neg HNS.out, if_neg (by simp), htl, hts, hth, htp])
        have HTL := Lib.hid htl
        have HTS := Lib.hid hts
        have HTH := Lib.hid hth
        have HTP := Lib.hid htp
        have HT1 := Lib.hid ht1
        have HKN : Hid (nm.length ≤ 10) := HNL
        clear HT HJ HNS htl hts hth htp ht1
        go_upto_region 11 with (go_at_call 71; first | (with_reducible refine (rbounded_as HBL _).mono ?_; rintro e w9 ⟨rfl, hw9⟩; rw [hw9]; clear hw9) | (with_reducible refine (rbounded_as HBS _).mono ?_; rintro e w9 ⟨rfl, hw9⟩; rw [hw9]; clear hw9))
        have hCd := hC7.on (Below.refl _ wc).drew
        have hbd := hb7.drew
        have hEd := hE.on hbd
        have d0 : wc.drew.cell? ⟨w.heap.size, 0, none⟩ = some (.int .i64 (K : Int)) := hCd.cell rfl
        have d1 : wc.drew.cell? ⟨w.heap.size, 1, none⟩ = some (.int .i64 lk) := hCd.cell rfl
        clear e0 e1 e2 e3 e4 e5 e6 e7 hC7 hb7
        have HCd := Lib.hid hCd
        have j3 : (K : Int) < 6 := by omega
        have j4 : K < 6 := by omega
        have z1 : ¬ 9223372036854775807 < nm.length + 1 := by omega
        have z2 : ¬ 9223372036854775807 < nm.length + 1 + tl.length := by omega
        clear hCd
        go_cut [8] (fun v wx => v = .string ⟨t1.toArray⟩ ∧ Hid (Blk w.heap.size #[.int .i64 (K : Int), .int .i64 lk, .int .i64 sd, .slice A N cc, .int .i64 pf, .int .u64 (ph : Int), .int .u64 (pl : Int), .int .i64 pq] 92 wx ∧ Below w.heap.size w wx))
        case first =>
          go_region_law (first
            | (go_simp; go_at_call 72; go_loud (with_reducible refine (rchgnames_any wc.drew).mono ?_); rintro e wn ⟨⟨An, rfl, hsn⟩, hbn⟩; obtain ⟨bn, on, rfl, hbn2, hcn⟩ := hsn (by simp); have cn : wn.cell? ⟨bn, on + K, none⟩ = some (.string ⟨nm.toArray⟩) := hcn K nm HNM.out; have m0 := keepc hbn d0; have m1 := keepc hbn d1; clear hcn hsn; have hbN : Below wc.drew.heap.size wc.drew wn := hbn)
            | (go_simp; go_at_call 72; with_reducible refine (rchgnames_any w5).mono ?_; rintro e wn ⟨⟨An, rfl, hsn⟩, hbn⟩; obtain ⟨bn, on, rfl, hbn2, hcn⟩ := hsn (by simp); have cn : wn.cell? ⟨bn, on + K, none⟩ = some (.string ⟨nm.toArray⟩) := hcn K nm HNM.out; have m0 := keepc hbn n0; have m1 := keepc hbn n1; clear hcn hsn; have hbN : Below wc.drew.heap.size wc.drew wn := hb5.trans (hbn.mono hb5.size))
            | (go_simp; go_at_call 55; with_reducible refine (itoa_as HTL HBL wc.drew hEd).mono ?_; rintro e w5 ⟨rfl, hb5⟩; have n0 := keepc hb5 d0; have n1 := keepc hb5 d1)
            | (go_simp; go_at_call 55; with_reducible refine (itoa_as HTL HBL wn (hEd.on hbN)).mono ?_; rintro e w5 ⟨rfl, hb5'⟩; have n0 := keepc hb5' m0; have n1 := keepc hb5' m1; have cn5 := keepc hb5' cn; have hb5 : Below wc.drew.heap.size wc.drew w5 := hbN.trans (hb5'.mono hbN.size)))
          all_goals
            go_wp2_with fail
            go_meet
            first
              | exact ⟨congrArg Value.string (by rw [← HT1.out]; simp only [str_cat, List.append_assoc, List.cons_append, List.nil_append]), Lib.hid ⟨HCd.out.on hb5, hbd.trans (hb5.mono hbd.size)⟩⟩
              | exact ⟨congrArg Value.string (by rw [← HT1.out]; simp only [str_cat, List.append_assoc, List.cons_append, List.nil_append]), Lib.hid ⟨HCd.out.on hbN, hbd.trans (hbN.mono hbd.size)⟩⟩
        obtain ⟨rfl, HX⟩ := hcut
        obtain ⟨hC8, hb8⟩ := HX.out
        clear z1 z2 HX d0 d1 HCd hbd hEd k0 k1
        have hE8 := hE.on hb8
        cases kb with
        | true =>
          obtain rfl : pb = false := by cases pb; rfl; exact absurd ⟨rfl, rfl⟩ HNOT.out
          have HE : Hid (jr = .ok (join 32 [nm, tl, th, ts])) := Lib.hid (by rw [HTT.out, if_neg (by simp)]; rfl)
          clear HTT HNOT
          have e2 : wc.cell? ⟨w.heap.size, 2, none⟩ = some (.int .i64 sd) := hC8.cell rfl
          have e3 : wc.cell? ⟨w.heap.size, 3, none⟩ = some (.slice A N cc) := hC8.cell rfl
          have hsA := (hs.below hb8).more hb8.size
          have a2 := after_cell e2
          have a3 := after_cell e3
          go_upto_region 13 with fail
          refine wp_region_after (by kernel_rfl) (by kernel_rfl) ?_
          repeat (go_big_quiet_step ((first
            | (go_at_call 74; with_reducible exact after_same (rcut_as hl A cc _))
            | (go_at_call 73; with_reducible exact after_of (rhexp_as HTH HNN A cc _ (by omega) hc (shows_after hsA _)))
            | (go_at_call 55; with_reducible exact after_of (itoa_as HTS HBS _ (hE8.on (After.b _)))))))
          refine wpQuiet_nil ?_
          rintro _ ⟨x, rfl⟩
          have hx := x.b
          clear a2 a3 e2 e3
          go_wp2
          go_ret2
          exact ⟨by rw [HE.out]; exact ret_str2 (by rw [← HT1.out]; simp only [str_cat, join, List.append_assoc, List.cons_append, List.nil_append]), hb8.trans (hx.mono hb8.size)⟩
        | false =>
          cases pb with
          | true =>
            have e4 : wc.cell? ⟨w.heap.size, 4, none⟩ = some (.int .i64 pf) := hC8.cell rfl
            have e5 : wc.cell? ⟨w.heap.size, 5, none⟩ = some (.int .u64 (ph : Int)) := hC8.cell rfl
            have e6 : wc.cell? ⟨w.heap.size, 6, none⟩ = some (.int .u64 (pl : Int)) := hC8.cell rfl
            have e7 : wc.cell? ⟨w.heap.size, 7, none⟩ = some (.int .i64 pq) := hC8.cell rfl
            cases hv : vP pf ph pl pq with
            | false =>
              have HE : Hid (jr = .error 70) := Lib.hid (by rw [HTT.out, if_pos ⟨rfl, hv⟩]; rfl)
              have htp0 : tp = [] := by rw [← HTP.out]; exact pX_no hv
              subst htp0
              clear HTT hv
              go_wp2_with (go_at_call 75; refine (rprintp_as HTP _ hE8 hph hpl).mono ?_; rintro e w9 ⟨rfl, hb9⟩)
              go_ret2
              exact ⟨by rw [HE.out]; exact rfl, hb8.trans (hb9.mono hb8.size)⟩
            | true =>
              have HE : Hid (jr = .ok (join 32 [nm, tl, tp])) := Lib.hid (by rw [HTT.out, if_neg (by rw [hv]; simp)]; rfl)
              have hne : (tp == []) = false := by rw [beq_eq_false_iff_ne, ← HTP.out]; exact pX_ne hph hpl hv
              clear HTT hv
              go_wp2_with (go_at_call 75; refine (rprintp_as HTP _ hE8 hph hpl).mono ?_; rintro e w9 ⟨rfl, hb9⟩)
              go_ret2
              exact ⟨by rw [HE.out]; exact ret_str2 (by rw [← HT1.out]; simp only [str_cat, join, List.append_assoc, List.cons_append, List.nil_append]), hb8.trans (hb9.mono hb8.size)⟩
          | false =>
            have HE : Hid (jr = .ok (join 32 [nm, tl])) := Lib.hid (by rw [HTT.out, if_neg (by simp)]; rfl)
            clear HTT
            go_wp2
            go_ret2
            exact ⟨by rw [HE.out]; exact ret_str2 (by rw [← HT1.out]; rfl), hb8⟩
end Go.Proofs.YtpkmekdpmkfcdaaGreatDoor.Sr

namespace Go.Proofs.YtpkmekdpmkfcdaaGreatDoor.Sr
set_option linter.unusedVariables false
set_option linter.unusedSimpArgs false
open Go.RowKit Go.Proofs.YtpkmekdpmkfcdaaGreatDoor.Wd Go.Proofs.YtpkmekdpmkfcdaaGreatDoor.Px Go.Proofs.YtpkmekdpmkfcdaaGreatDoor.By Go.Proofs.YtpkmekdpmkfcdaaGreatDoor.En Go.Proofs.YtpkmekdpmkfcdaaGreatDoor.Pl Go.Proofs.YtpkmekdpmkfcdaaGreatDoor.Pf Go.Proofs.YtpkmekdpmkfcdaaGreatDoor.Sc

theorem rput_any (c : Chg) (A : Option Addr) (cc : Nat) (w : World) (hE : Env w) (hl : c.key.length ≤ 1048576) (hc : c.key.length ≤ cc) (hs : Shows cel w w.heap.size A c.key) (hph : c.ph < 18446744073709551616) (hpl : c.pl < 18446744073709551616) :
    Calls Tryz.prog 39 #[.agg (chC c (.slice A c.key.length cc))] w fun e w' => TextR (joined (chgT c)) e ∧ Below w.heap.size w w' := by
  obtain ⟨ck, lk, sd, key, pf, ph, pl, pq⟩ := c
  simp only at hl hc hs hph hpl
  simp only [chC]
  by_cases h1 : ck < 1
  · have hv : chgT ⟨ck, lk, sd, key, pf, ph, pl, pq⟩ = .error 222 := by unfold chgT; rw [if_pos (by simp only; omega)]
    rw [hv]
    clear hv
    obtain ⟨N, hN⟩ : ∃ N, key.length = N := ⟨_, rfl⟩
    rw [hN]
    clear hN hl hc hs
    have hb := one w (.cells #[.int .i64 ck, .int .i64 lk, .int .i64 sd, .slice A N cc, .int .i64 pf, .int .u64 (ph : Int), .int .u64 (pl : Int), .int .i64 pq] 92)
    go_enter Tryz.func39, Tryz.ntmps39
    go_wp2
    go_ret2
    exact ⟨rfl, hb⟩
  · by_cases h2 : 5 < ck
    · have hv : chgT ⟨ck, lk, sd, key, pf, ph, pl, pq⟩ = .error 222 := by unfold chgT; rw [if_pos (by simp only; omega)]
      rw [hv]
      clear hv
      obtain ⟨N, hN⟩ : ∃ N, key.length = N := ⟨_, rfl⟩
      rw [hN]
      clear hN hl hc hs
      have hb := one w (.cells #[.int .i64 ck, .int .i64 lk, .int .i64 sd, .slice A N cc, .int .i64 pf, .int .u64 (ph : Int), .int .u64 (pl : Int), .int .i64 pq] 92)
      go_enter Tryz.func39, Tryz.ntmps39
      go_wp2
      go_ret2
      exact ⟨rfl, hb⟩
    · obtain ⟨K, rfl⟩ : ∃ K : Nat, ck = (K : Int) := ⟨ck.toNat, by omega⟩
      exact rput_in K lk sd key pf ph pl pq A key.length cc w hE (by omega) (by omega) (Lib.hid rfl) hl hc hs hph hpl _ (Lib.hid rfl)
theorem rput_as {c : Chg} {r : Except Int (List UInt8)} (hr : Hid (joined (chgT c) = r)) (A : Option Addr) (n cc : Nat) (hn : Hid (c.key.length = n)) (w : World) (hE : Env w) (hL : Lim c) (hk : n ≤ 1048576) (hc : n ≤ cc) (hs : Shows cel w w.heap.size A c.key) :
    Calls Tryz.prog 39 #[.agg (chC c (.slice A n cc))] w fun e w' => TextR r e ∧ Below w.heap.size w w' := by
  have hn := hn.out
  subst hn
  have := rput_any c A cc w hE hk hc hs hL.ph hL.pl
  rwa [hr.out] at this

/-! ### the text so far: what is too long stays so -/
def sepC : List UInt8 := [32, 44, 32]
def TI (dn : List (List UInt8)) (t : List UInt8) : Prop := (t.length ≤ 1048576 → t = Go.Lib.join dn sepC) ∧ (1048576 < t.length → 1048576 < (Go.Lib.join dn sepC).length)
theorem libjoin_snoc (s x : List UInt8) : ∀ m : List (List UInt8), m ≠ [] → Go.Lib.join (m ++ [x]) s = Go.Lib.join m s ++ s ++ x
  | [], h => absurd rfl h
  | [a], _ => by simp [Go.Lib.join, List.intercalate, List.intersperse]
  | a :: b :: r, _ => by
    have e : ∀ (q : List (List UInt8)), Go.Lib.join (a :: b :: q) s = a ++ s ++ Go.Lib.join (b :: q) s := fun q => by simp [Go.Lib.join, List.intercalate, List.intersperse]
    have h2 := libjoin_snoc s x (b :: r) (by simp)
    simp only [List.cons_append] at h2 ⊢
    rw [e, e, h2]
    simp
theorem TI.start : TI [] [] := ⟨fun _ => rfl, fun h => by simp at h⟩
theorem TI.nil {t : List UInt8} (h : TI [] t) : t = [] := by
  by_cases e : t.length ≤ 1048576
  · rw [h.1 e]; rfl
  · have := h.2 (by omega); simp [Go.Lib.join] at this
theorem TI.first {t x : List UInt8} (h : TI [] t) : TI ([] ++ [x]) x := by
  have e : Go.Lib.join ([] ++ [x]) sepC = x := by simp [Go.Lib.join]
  exact ⟨fun _ => e.symm, fun h => by rw [e]; exact h⟩
theorem TI.all {dn : List (List UInt8)} {t x : List UInt8} (h : TI dn t) (hd : dn ≠ []) (ht : t.length ≤ 1048576) : TI (dn ++ [x]) (t ++ sepC ++ x) := by
  have e := libjoin_snoc sepC x dn hd
  rw [← h.1 ht] at e
  exact ⟨fun _ => e.symm, fun h => by rw [e]; exact h⟩
theorem TI.half {dn : List (List UInt8)} {t x : List UInt8} (h : TI dn t) (hd : dn ≠ []) (ht : t.length ≤ 1048576) (h2 : 1048576 < (t ++ sepC).length) : TI (dn ++ [x]) (t ++ sepC) := by
  have e := libjoin_snoc sepC x dn hd
  rw [← h.1 ht] at e
  exact ⟨fun h => by omega, fun _ => by rw [e, List.length_append]; omega⟩
theorem TI.long {dn : List (List UInt8)} {t x : List UInt8} (h : TI dn t) (hd : dn ≠ []) (ht : 1048576 < t.length) : TI (dn ++ [x]) t := by
  have e := libjoin_snoc sepC x dn hd
  exact ⟨fun h => by omega, fun _ => by rw [e, List.length_append, List.length_append]; have := h.2 ht; omega⟩

set_option maxRecDepth 20000 in
set_option maxHeartbeats 4000000 in
theorem rprintc_in (l : List Chg) (kvs : List Value) (A : Option Addr) (cc : Nat) (w : World) (hE : Env w) (hl : l.length ≤ 2000000) (hc : l.length ≤ cc) (hs : ShC w A l kvs) (hL : ∀ c ∈ l, Lim c) (hK : ∀ c ∈ l, c.key.length ≤ 1048576) :
    Calls Tryz.prog 17 #[.slice A l.length cc] w fun e w' => TextR (joined (chgsT l)) e ∧ Below w.heap.size w w' := by
  obtain ⟨N, hN⟩ : ∃ N, l.length = N := ⟨_, rfl⟩
  rw [hN] at hl hc ⊢
  have HN := Lib.hid hN
  clear hN
  go_enter Tryz.func17, Tryz.ntmps17
  go_wp2
  go_loopw [4, 5] (fun v i wr => ∃ (k : Nat) (dn : List (List UInt8)) (t : List UInt8), k ≤ N ∧ i = .int .i64 (k : Int) ∧ v = .string ⟨t.toArray⟩ ∧ t.length ≤ 17100000 ∧ Hid (∃ ls, mapE chgT (l.take k) = .ok ls ∧ dn = ls.map (join 32) ∧ ∀ a ∈ ls, a ≠ []) ∧ Hid (dn.length = k) ∧ Hid (TI dn t) ∧ Below w.heap.size w wr) (fun _ i _ => N - (intOf i).toNat)
  case atStart => exact ⟨0, [], [], Nat.zero_le _, rfl, rfl, by simp, Lib.hid ⟨[], rfl, rfl, by simp⟩, Lib.hid rfl, Lib.hid TI.start, Below.refl _ _⟩
  case round =>
    obtain ⟨k, dn, t, hk, rfl, rfl, htl, HM, HDL, HTI, hbl⟩ := hrel
    by_cases hlt : k < N
    · have j1 : (k : Int) < (N : Int) := by omega
      obtain ⟨bb, o, rfl, hbb, hcell⟩ := hs.cells (by rw [HN.out]; omega)
      obtain ⟨c, hf⟩ : ∃ f, l[k]? = some f := ⟨_, List.getElem?_eq_getElem (by rw [HN.out]; exact hlt)⟩
      obtain ⟨kv, hkv⟩ : ∃ f, kvs[k]? = some f := ⟨_, List.getElem?_eq_getElem (by rw [hs.len, HN.out]; exact hlt)⟩
      obtain ⟨Ak, kc, rfl, hkc, hsk⟩ := hs.key k c kv hf hkv
      have hcl := hcell k c _ hf hkv
      have cl : ∀ (j : Nat) u, (chC c (.slice Ak c.key.length kc))[j]? = some u → wr.cell? ⟨bb, o + k * 8 + j, none⟩ = some u := fun j u h => (hbl.cell (p := ⟨bb, o + k * 8 + j, none⟩) hbb).trans (hcl j u h)
      have hLc := hL c (List.mem_of_getElem? hf)
      have hKc := hK c (List.mem_of_getElem? hf)
      obtain ⟨hts, htl2⟩ := take_snoc hf
      have HBAD : Hid (∀ z, chgT c = .error z → joined (chgsT l) = .error z) := Lib.hid (fun z hz => by
        obtain ⟨ls, h1, h2⟩ := HM.out
        unfold chgsT joined
        rw [htl2, mapE_bad _ h1 hz])
      have HGO : Hid (∀ ws, chgT c = .ok ws → ∃ ls, mapE chgT (l.take (k + 1)) = .ok ls ∧ dn ++ [join 32 ws] = ls.map (join 32) ∧ ∀ a ∈ ls, a ≠ []) := Lib.hid (fun ws hz => by
        obtain ⟨ls, h1, h2, h3⟩ := HM.out
        refine ⟨ls ++ [ws], by rw [hts]; exact mapE_snoc h1 hz, by rw [h2]; simp, fun a ha => ?_⟩
        rcases List.mem_append.1 ha with ha | ha
        · exact h3 a ha
        · rw [List.mem_singleton.1 ha]
          exact (chgT_len hz hLc.key hLc.ph hLc.pl).1)
      clear hts htl2 hf hcell hcl hkv
      obtain ⟨n, hn⟩ : ∃ n, c.key.length = n := ⟨_, rfl⟩
      have HNK := Lib.hid hn
      rw [hn] at hkc cl hKc
      have c0 : wr.cell? ⟨bb, o + k * 8 + 0, none⟩ = some (.int .i64 c.kind) := cl 0 _ rfl
      have c1 : wr.cell? ⟨bb, o + k * 8 + 1, none⟩ = some (.int .i64 c.link) := cl 1 _ rfl
      have c2' : wr.cell? ⟨bb, o + k * 8 + 2, none⟩ = some (.int .i64 c.side) := cl 2 _ rfl
      have c3 : wr.cell? ⟨bb, o + k * 8 + 3, none⟩ = some (.slice Ak n kc) := cl 3 _ rfl
      have c4 : wr.cell? ⟨bb, o + k * 8 + 4, none⟩ = some (.int .i64 c.pf) := cl 4 _ rfl
      have c5 : wr.cell? ⟨bb, o + k * 8 + 5, none⟩ = some (.int .u64 (c.ph : Int)) := cl 5 _ rfl
      have c6 : wr.cell? ⟨bb, o + k * 8 + 6, none⟩ = some (.int .u64 (c.pl : Int)) := cl 6 _ rfl
      have c7 : wr.cell? ⟨bb, o + k * 8 + 7, none⟩ = some (.int .i64 c.pb) := cl 7 _ rfl
      rw [Nat.add_zero] at c0
      obtain ⟨rc, hrc⟩ : ∃ r, chgT c = r := ⟨_, rfl⟩
      have hrj : Hid (joined (chgT c) = joined rc) := Lib.hid (by rw [hrc])
      have hcall := rput_as hrj Ak n kc HNK _ (hE.on hbl) hLc hKc hkc ((hsk.below hbl).more hbl.size)
      simp only [chC] at hcall
      clear hn cl hsk
      cases rc with
      | error z =>
        have HE := Lib.hid (HBAD.out z hrc)
        have hzz : (z != 0) = true := by rw [bne_iff_ne]; exact chgT_err hrc
        clear hrc
        go_wp2_with (go_at_call 39; refine hcall.mono ?_; rintro e w3 ⟨hres, hb3⟩; have hres2 : e = .returned (.tuple #[.string ⟨#[]⟩, .int .i64 z]) := hres; subst hres2; clear hres; have hb4 := hbl.trans (hb3.mono hbl.size))
        go_ret2
        exact ⟨by rw [HE.out]; exact rfl, hb4⟩
      | ok ws =>
        have HG := Lib.hid (HGO.out ws hrc)
        have hwl := (chgT_len hrc hLc.key hLc.ph hLc.pl).2
        clear hrc
        obtain ⟨tx, htx⟩ : ∃ t, join 32 ws = t := ⟨_, rfl⟩
        rw [htx] at HG hwl
        have HTX := Lib.hid htx
        clear htx
        have HLN : Hid ((dn ++ [tx]).length = k + 1) := Lib.hid (by rw [List.length_append, HDL.out]; rfl)
        by_cases hk0 : k = 0
        · have hkn : ¬ (0 : Int) < (k : Int) := by omega
          obtain rfl : dn = [] := List.eq_nil_of_length_eq_zero (HDL.out.trans hk0)
          clear hk0
          obtain rfl := HTI.out.nil
          have HT2 := Lib.hid (HTI.out.first (x := tx))
          go_wp2_with (go_at_call 39; refine hcall.mono ?_; rintro e w3 ⟨hres, hb3⟩; have hres2 : e = .returned (.tuple #[.string ⟨tx.toArray⟩, .int .i64 0]) := (by rw [← HTX.out]; exact hres); subst hres2; clear hres; have hb4 := hbl.trans (hb3.mono hbl.size); clear hb3)
          go_roundw
          case rel => exact ⟨k + 1, _, tx, by omega, by go_num, congrArg Value.string (by first | rfl | exact str_cat [] tx), by omega, HG, HLN, HT2, hb4⟩
          case measure => simp [intOf]; omega
        · have hkp : (0 : Int) < (k : Int) := by omega
          have hdn : dn ≠ [] := by intro e; rw [e] at HDL; exact hk0 HDL.out.symm
          by_cases hM : t.length ≤ 1048576
          · have m1 : (t.length : Int) ≤ 1048576 := by omega
            obtain ⟨S, hS⟩ : ∃ S, t.length + 3 = S := ⟨_, rfl⟩
            have hS2 : (t.length : Int) + 3 = (S : Int) := by omega
            have hS3 : S ≤ 1048579 := by omega
            by_cases hM2 : t.length + 3 ≤ 1048576
            · have m2 : (S : Int) ≤ 1048576 := by omega
              have HT2 := Lib.hid (HTI.out.all (x := tx) hdn hM)
              clear hM hM2 hdn
              go_wp2_with (go_at_call 39; refine hcall.mono ?_; rintro e w3 ⟨hres, hb3⟩; have hres2 : e = .returned (.tuple #[.string ⟨tx.toArray⟩, .int .i64 0]) := (by rw [← HTX.out]; exact hres); subst hres2; clear hres; have hb4 := hbl.trans (hb3.mono hbl.size); clear hb3)
              go_roundw
              case rel => exact ⟨k + 1, _, t ++ sepC ++ tx, by omega, by go_num, congrArg Value.string (by rw [show (⟨#[32, 44, 32]⟩ : ByteArray) = ⟨sepC.toArray⟩ from rfl, str_cat, str_cat]), by simp only [List.length_append, sepC, List.length_cons, List.length_nil]; omega, HG, HLN, HT2, hb4⟩
              case measure => simp [intOf]; omega
            · have m2 : ¬ (S : Int) ≤ 1048576 := by omega
              have HT2 := Lib.hid (HTI.out.half (x := tx) hdn hM (by simp only [List.length_append, sepC, List.length_cons, List.length_nil]; omega))
              clear hM hM2 hdn
              go_wp2_with (go_at_call 39; refine hcall.mono ?_; rintro e w3 ⟨hres, hb3⟩; have hres2 : e = .returned (.tuple #[.string ⟨tx.toArray⟩, .int .i64 0]) := (by rw [← HTX.out]; exact hres); subst hres2; clear hres; have hb4 := hbl.trans (hb3.mono hbl.size); clear hb3)
              go_roundw
              case rel => exact ⟨k + 1, _, t ++ sepC, by omega, by go_num, congrArg Value.string (by rw [show (⟨#[32, 44, 32]⟩ : ByteArray) = ⟨sepC.toArray⟩ from rfl, str_cat]), by simp only [List.length_append, sepC, List.length_cons, List.length_nil]; omega, HG, HLN, HT2, hb4⟩
              case measure => simp [intOf]; omega
          · have m1 : ¬ (t.length : Int) ≤ 1048576 := by omega
            have HT2 := Lib.hid (HTI.out.long (x := tx) hdn (by omega))
            clear hM hdn
            go_wp2_with (go_at_call 39; refine hcall.mono ?_; rintro e w3 ⟨hres, hb3⟩; have hres2 : e = .returned (.tuple #[.string ⟨tx.toArray⟩, .int .i64 0]) := (by rw [← HTX.out]; exact hres); subst hres2; clear hres; have hb4 := hbl.trans (hb3.mono hbl.size); clear hb3)
            go_roundw
            case rel => exact ⟨k + 1, _, t, by omega, by go_num, rfl, htl, HG, HLN, HT2, hb4⟩
            case measure => simp [intOf]; omega
    · obtain rfl : k = N := by omega
      have j1 : ¬ (k : Int) < (k : Int) := by omega
      obtain ⟨ls, h1, h2, h3⟩ := HM.out
      have hcm : join 32 (comma ls) = Go.Lib.join dn sepC := by rw [h2]; exact (join_comma ls h3).symm
      have hT2 : joined (chgsT l) = if 1048576 < (Go.Lib.join dn sepC).length then .error 221 else .ok (Go.Lib.join dn sepC) := by
        unfold chgsT joined
        rw [← List.take_of_length_le (l := l) (i := k) (by rw [HN.out]; exact Nat.le_refl _), h1]
        simp only [hcm]
        by_cases e : 1048576 < (Go.Lib.join dn sepC).length
        · rw [if_pos e, if_pos e]
        · rw [if_neg e, if_neg e]; simp only [hcm]
      by_cases e : 1048576 < t.length
      · have HE : Hid (joined (chgsT l) = .error 221) := Lib.hid (by rw [hT2, if_pos (HTI.out.2 e)])
        have i1 : (1048576 : Int) < (t.length : Int) := by omega
        clear hT2 e h1 h2 h3 hcm
        go_wp2
        go_ret2
        exact ⟨by rw [HE.out]; exact rfl, hbl⟩
      · have HE : Hid (joined (chgsT l) = .ok t) := Lib.hid (by
          have e2 := HTI.out.1 (by omega)
          rw [hT2, ← e2, if_neg e])
        have i1 : ¬ (1048576 : Int) < (t.length : Int) := by omega
        clear hT2 e h1 h2 h3 hcm
        go_wp2
        go_ret2
        exact ⟨by rw [HE.out]; exact rfl, hbl⟩
end Go.Proofs.YtpkmekdpmkfcdaaGreatDoor.Sr

namespace Go.Proofs.YtpkmekdpmkfcdaaGreatDoor.Sr
set_option linter.unusedVariables false
set_option linter.unusedSimpArgs false
open Go.RowKit Go.Proofs.YtpkmekdpmkfcdaaGreatDoor.Wd Go.Proofs.YtpkmekdpmkfcdaaGreatDoor.Px Go.Proofs.YtpkmekdpmkfcdaaGreatDoor.By Go.Proofs.YtpkmekdpmkfcdaaGreatDoor.En Go.Proofs.YtpkmekdpmkfcdaaGreatDoor.Pl Go.Proofs.YtpkmekdpmkfcdaaGreatDoor.Pf Go.Proofs.YtpkmekdpmkfcdaaGreatDoor.Sc

def okL : Except Int (List Chg) → List Chg
  | .ok l => l
  | .error _ => []
def erL : Except Int (List Chg) → Int
  | .ok _ => 0
  | .error x => x
theorem ListR.open2 {r : Except Int (List Chg)} {w w' : World} {e : Ending} (h : ListR r w e w') {l : List Chg} {n : Nat} {x : Int} (hl : okL r = l) (hn : l.length = n) (hx : erL r = x) :
    ∃ A k kvs, e = .returned (.tuple #[.slice A n k, .int .i64 x]) ∧ ShC w' A l kvs := by
  subst hl hn hx
  cases r with
  | ok l => obtain ⟨A, k, kvs, rfl, h⟩ := h; exact ⟨A, k, kvs, rfl, h.shows⟩
  | error x => exact ⟨none, 0, [], h, (CRow.nil 0 w').shows⟩
def okT : Except Int (List UInt8) → List UInt8
  | .ok l => l
  | .error _ => []
def erT : Except Int (List UInt8) → Int
  | .ok _ => 0
  | .error x => x
theorem TextR.open2 {r : Except Int (List UInt8)} {e : Ending} (h : TextR r e) {t : List UInt8} {x : Int} (ht : okT r = t) (hx : erT r = x) : e = .returned (.tuple #[.string ⟨t.toArray⟩, .int .i64 x]) := by
  subst ht hx
  cases r with
  | ok l => exact h
  | error x => exact h
theorem parseC_lim {t : List UInt8} : (∀ c ∈ okL (parseC t), Lim c) ∧ (okL (parseC t)).length ≤ 2000000 := by
  cases h : parseC t with
  | error x => exact ⟨fun c hc => by simp [okL] at hc, by simp [okL]⟩
  | ok l =>
    unfold parseC at h
    split at h
    · cases h
    · rename_i h1
      split at h
      · cases h
      · split at h
        · cases h
        · rename_i ws hws
          have hwl := wds_len t [] ws hws
          have hww := wds_le t.length t [] ws (by simp) hws
          have := chgs_lim h (fun y hy => by have := hww y hy; omega)
          exact ⟨this.1, by have := this.2; simp only [okL]; omega⟩
theorem crow_cap {B n c : Nat} {A : Option Addr} {l : List Chg} {kvs : List Value} {W : World} (h : CRow B (.slice A n c) l kvs W) (hn : l.length = n) : n ≤ c := by
  subst hn
  obtain ⟨A', c', e, hle⟩ := own_sl h.row
  injection e with _ _ e
  subst e
  exact hle
theorem rprintc_as {l : List Chg} {kvs : List Value} {r : Except Int (List UInt8)} {n : Nat} (hr : Hid (joined (chgsT l) = r)) (hn : Hid (l.length = n)) (A : Option Addr) (c : Nat) (w : World) (hE : Env w) (hl : n ≤ 2000000) (hc : n ≤ c) (hs : ShC w A l kvs) (hL : ∀ c ∈ l, Lim c) (hK : ∀ c ∈ l, c.key.length ≤ 1048576) :
    Calls Tryz.prog 17 #[.slice A n c] w fun e w' => TextR r e ∧ Below w.heap.size w w' := by
  have hn := hn.out
  subst hn
  have := rprintc_in l kvs A c w hE hl hc hs hL hK
  rwa [hr.out] at this

set_option maxRecDepth 20000 in
set_option maxHeartbeats 2000000 in
theorem scriptChanges_law (t : List UInt8) {l : List Chg} {N : Nat} (HN : Hid (l.length = N)) (kvs : List Value) (A : Option Addr) (c : Nat) (w : World) (hE : Env w) (hT : Tabs w) (hl : N ≤ 2000000) (hc : N ≤ c) (hs : ShC w A l kvs) (hL : ∀ c ∈ l, Lim c) (hK : ∀ c ∈ l, c.key.length ≤ 1048576) :
    Calls Tryz.prog 3 #[.string ⟨t.toArray⟩, .slice A N c] w fun e w' => e = .returned (.bool true) ∧ Below w.heap.size w w' := by
  have hF := fst_any _ hE hT
  have HL := Lib.hid hL
  have HK := Lib.hid hK
  have HS := Lib.hid hs
  have hpl := parseC_lim (t := t)
  obtain ⟨r, hr⟩ : ∃ r, parseC t = r := ⟨_, rfl⟩
  rw [hr] at hpl
  obtain ⟨l1, hl1⟩ : ∃ l1, okL r = l1 := ⟨_, rfl⟩
  obtain ⟨x1, hx1⟩ : ∃ x1, erL r = x1 := ⟨_, rfl⟩
  obtain ⟨n1, hn1⟩ : ∃ n1, l1.length = n1 := ⟨_, rfl⟩
  rw [hl1, hn1] at hpl
  have HR := Lib.hid hr
  have HL1 := Lib.hid hl1
  have HX1 := Lib.hid hx1
  have HN1 := Lib.hid hn1
  have HLM := Lib.hid hpl.1
  have hlen1 : n1 ≤ 2000000 := hpl.2
  obtain ⟨rt, hrt⟩ : ∃ rt, joined (chgsT l) = rt := ⟨_, rfl⟩
  obtain ⟨tx, htx⟩ : ∃ tx, okT rt = tx := ⟨_, rfl⟩
  obtain ⟨z, hz⟩ : ∃ z, erT rt = z := ⟨_, rfl⟩
  have HRT := Lib.hid hrt
  have HTX := Lib.hid htx
  have HZ := Lib.hid hz
  clear hs hL hK hpl hr hl1 hx1 hn1 hrt htx hz
  go_enter Tryz.func3, Tryz.ntmps3
  go_wp2_with fail
  refine hF.mono ?_
  rintro e w1 ⟨rfl, hb1⟩
  clear hF
  go_wp2_with fail
  refine (parsec_any t w1 (hE.on hb1) (hT.on hb1)).mono ?_
  rintro e w2 ⟨hres, hb2⟩
  rw [HR.out] at hres
  obtain ⟨A1, k1, kv1, rfl, hs1⟩ := hres.open2 HL1.out HN1.out HX1.out
  have hb3 := hb1.trans (hb2.mono hb1.size)
  clear hb1 hb2 hres
  go_wp2_with fail
  refine (rparsec_any t w2 (hE.on hb3)).mono ?_
  rintro e w4 ⟨hres, hb4⟩
  rw [HR.out] at hres
  obtain ⟨A2, k2, kv2, rfl, hs2⟩ := hres.open2 HL1.out HN1.out HX1.out
  have hs1 := hs1.on hb4
  have hb5 := hb3.trans (hb4.mono hb3.size)
  clear hb3 hb4 hres
  go_wp2_with fail
  refine (changes_same HN1 kv1 kv2 A1 A2 k1 k2 w4 hlen1 hs1 hs2 HLM.out).mono ?_
  rintro e w6 ⟨rfl, hb6⟩
  have hb7 := hb5.trans (hb6.mono hb5.size)
  clear hb5 hb6 hs1 hs2
  by_cases m : 400 < N
  · have m1 : (400 : Int) < (N : Int) := by omega
    go_wp2_with (go_at_call 14; refine (n22_any _ _).mono ?_; rintro e w10 ⟨rfl, hw⟩; rw [hw]; clear hw)
    go_ret
    exact ⟨rfl, hb7⟩
  · have m1 : ¬ (400 : Int) < (N : Int) := by omega
    have HS7 := Lib.hid (HS.out.on hb7)
    go_wp2_with (go_at_call 14; refine (n22_any _ _).mono ?_; rintro e w10 ⟨rfl, hw⟩; rw [hw]; clear hw)
    refine (changes_copy HN kvs A c w6 hl HS7.out HL.out).mono ?_
    rintro e w8 ⟨⟨A3, c3, kv3, rfl, hrow3⟩, hb8⟩
    have hb9 := hb7.trans (hb8.mono hb7.size)
    have HS9 := Lib.hid (HS7.out.on hb8)
    have hc3 := crow_cap hrow3 HN.out
    have hs3 := hrow3.shows
    clear hb7 hb8 hrow3
    go_wp2_with fail
    refine (printc_as HRT HN A3 c3 w8 (hE.on hb9) (hT.on hb9) hl hc3 hs3 HL.out).mono ?_
    rintro e wa ⟨hres, hba⟩
    obtain rfl := hres.open2 HTX.out HZ.out
    have hbb := hb9.trans (hba.mono hb9.size)
    have HSb := Lib.hid (HS9.out.on hba)
    clear hb9 hba hs3 hres
    go_wp2_with fail
    refine (rprintc_as HRT HN A c wa (hE.on hbb) hl hc HSb.out HL.out HK.out).mono ?_
    rintro e wc ⟨hres, hbc⟩
    obtain rfl := hres.open2 HTX.out HZ.out
    have hbd := hbb.trans (hbc.mono hbb.size)
    clear hbb hbc hres
    go_wp2_with (go_at_call 14; refine (n22_any _ _).mono ?_; rintro e w10 ⟨rfl, hw⟩; rw [hw]; clear hw)
    go_ret
    exact ⟨rfl, hbd⟩
end Go.Proofs.YtpkmekdpmkfcdaaGreatDoor.Sr
