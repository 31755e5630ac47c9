/- Contract of the reference: the words of a step (all). -/
import Derived.Test.YtpkmekdpmkfcdaaGreatDoorSqM
namespace Go.Proofs.YtpkmekdpmkfcdaaGreatDoor.Sr
set_option linter.unusedVariables false
set_option linter.unusedSimpArgs false
open Go.RowKit Go.Proofs.YtpkmekdpmkfcdaaGreatDoor.Wd Go.Proofs.YtpkmekdpmkfcdaaGreatDoor.Px Go.Proofs.YtpkmekdpmkfcdaaGreatDoor.By Go.Proofs.YtpkmekdpmkfcdaaGreatDoor.En Go.Proofs.YtpkmekdpmkfcdaaGreatDoor.Pl Go.Proofs.YtpkmekdpmkfcdaaGreatDoor.Sc
open Go.Proofs.YtpkmekdpmkfcdaaGreatDoor.Pf (Cut strc one)

set_option maxRecDepth 20000 in
set_option maxHeartbeats 4000000 in
theorem rstep_a (a : List UInt8) (ws : List (List UInt8)) (A : Option Addr) (c : Nat) (w : World) (hE : Env w) (hl : (a :: ws).length ≤ 2000000) (hc : (a :: ws).length ≤ c) (hs : Shows strc w w.heap.size A (a :: ws)) (hw : ∀ x ∈ a :: ws, x.length ≤ 2000000) :
    Calls Tryz.prog 53 #[.slice A (a :: ws).length c] w fun e w' => StepR (stepS (a :: ws)) w e w' ∧ Below w.heap.size w w' := by
  obtain ⟨n1, hn1⟩ : ∃ n, ws.length = n := ⟨_, rfl⟩
  have hN : (a :: ws).length = n1 + 1 := by simp [hn1]
  rw [hN] at hl hc ⊢
  have HN := Lib.hid hN
  have HN1 := Lib.hid hn1
  have i0 : (0 : Int) < (n1 : Int) + 1 := by omega
  obtain ⟨K, hK⟩ : ∃ K, named stepNames a = K := ⟨_, rfl⟩
  have hK14 : K ≤ 14 := by have := named_le stepNames a; rw [hK] at this; exact this
  have HK := Lib.hid hK
  have HS := Lib.hid hs
  obtain ⟨bb, o, rfl, hbb, hcell⟩ := hs (by simp)
  have c0 := hcell 0 a rfl
  rw [Nat.add_zero] at c0
  unfold strc at c0
  have hbw : bb < w.heap.size := hbb
  have HCL := Lib.hid hcell
  have HW := Lib.hid hw
  clear hN hn1 hK hs hcell hw
  go_enter Tryz.func53, Tryz.ntmps53
  go_upto_region 1 with fail
  have hbl := one w (.cells (opC opp0 nl nl nl nl) 108)
  have hB : Blk w.heap.size (opC opp0 nl nl nl nl) 108 (w.alloc (.cells (opC opp0 nl nl nl nl) 108)) := (blk_new w (opC opp0 nl nl nl nl) 108)
  change Code.wp _ _ _ _ (w.alloc (.cells (opC opp0 nl nl nl nl) 108))
  generalize (w.alloc (.cells (opC opp0 nl nl nl nl) 108)) = W0 at hbl hB ⊢
  obtain ⟨R, hR⟩ : ∃ R, w.heap.size = R := ⟨_, rfl⟩
  have hRw : w.heap.size ≤ R := Nat.le_of_eq hR
  rw [hR] at hB ⊢
  have hbn : bb ≠ R := by omega
  clear hR
  have hd0 : Below W0.heap.size W0 W0.drew := (Below.refl _ _).drew
  have hBd := hB.on hd0
  have hbld := hbl.drew
  have c0d := (hbld.cell (p := ⟨bb, o, none⟩) hbw).trans c0
  clear c0 hB hbl hd0 hbb
  go_cut [4] (fun v wx => v = .int .i64 (K : Int) ∧ Hid (Blk R (opC opp0 nl nl nl nl) 108 wx ∧ Below w.heap.size w wx))
  case first =>
    go_region_law (first
      | (go_simp; go_at_call 140; with_reducible refine (rnames_any _).mono ?_; rintro e w1 ⟨⟨An, rfl, hsn⟩, hb1⟩; have c01 := keepc hb1 c0d; have hB1 := hBd.on hb1; have hbl1 := hbld.trans (hb1.mono hbld.size))
      | (go_simp; go_at_call 139; with_reducible refine (rfind_as HK An 15 15 _ (Lib.hid rfl) (by decide) hsn).mono ?_; rintro e w2 ⟨rfl, rfl⟩))
    all_goals
      go_wp2_with fail
      go_meet
      exact ⟨rfl, Lib.hid ⟨hB1, hbl1⟩⟩
  obtain ⟨rfl, HX⟩ := hcut
  obtain ⟨hB1, hbl1⟩ := HX.out
  clear HX hBd hbld c0d
  by_cases hK0 : K = 0
  · have HC : Hid (stepS (a :: ws) = .error 222) := Lib.hid (by rw [stepS_cons, HK.out, if_pos hK0])
    subst hK0
    obtain ⟨r0, r1, r2, r3, r4, r5, r6, r7, r8, r9, r10, r11, r12, r13, fr0⟩ := opC_cells hB1
    simp only [opp0, nl] at r0 r1 r2 r3 r4 r5 r6 r7 r8 r9 r10 r11 r12 r13
    go_wp2
    refine close_rstep hB1 rfl 222 rfl rfl fun W8 hb8 ho8 => ⟨⟨opp0, nl, nl, nl, nl, sl_slice _ _ _, sl_slice _ _ _, sl_slice _ _ _, sl_slice _ _ _, ?_⟩, hb8 _ _ hRw hbl1⟩
    rw [HC.out]; exact rfl
  · have kz : ((K : Int) == 0) = false := by rw [beq_eq_false_iff_ne]; omega
    obtain ⟨q, fc, hfl, hq2, hfq, hlast, hk10, hone⟩ := form_facts (by omega) hK14
    have hneed := want_need K (by omega) hK14 n1
    obtain ⟨f, hf⟩ : ∃ f, stepForm K = f := ⟨_, rfl⟩
    obtain ⟨g, hg⟩ : ∃ g, stepFormR K = g := ⟨_, rfl⟩
    have hgf : g = f.map lowS := by rw [← hg, ← hf]; rfl
    rw [hf] at hfl hfq hlast hone hneed
    obtain ⟨tb, htb⟩ : ∃ s : ByteArray, s = ⟨g.toArray⟩ := ⟨_, rfl⟩
    have hsz : tb.size = q + 1 := by rw [htb]; show g.length = q + 1; rw [hgf, List.length_map, hfl]
    have hat : ∀ (k : Nat) (h1 : k < tb.size) (x : UInt8), f[k]? = some x → tb[k] = lowS x := by
      intro k h1 x hx
      have : g[k]? = some (lowS x) := by rw [hgf, List.getElem?_map, hx]; rfl
      exact str_at htb this h1
    have hform : ∀ wq : World, Calls Tryz.prog 141 #[.int .i64 (K : Int)] wq fun e w' => e = .returned (.string tb) ∧ Below wq.heap.size wq w' := fun wq => by
      have := rform_as (K := K) (by omega) hK14 wq
      rw [htb, ← hg]
      exact this
    obtain ⟨wb, hwb⟩ : ∃ b, want f n1 = b := ⟨_, rfl⟩
    have hwv : wb = if fc = 67 then decide (1 ≤ n1) else if fc = 70 then decide (n1 % 2 = 1) else decide (n1 = q + 1) := by
      rw [← hwb]; unfold want; rw [hlast, hfl]; simp
    have HMEM : Hid (fc ≠ 99 ∧ fc ≠ 102) := Lib.hid (form_mem hK14 fc (by rw [hf]; exact List.mem_of_getElem? hfq))
    have HNO : Hid (∀ (pos : Nat) (x : UInt8), f[pos]? = some x → (x = 67 → K = 1) ∧ (x = 70 → K = 10)) := Lib.hid fun pos x hx => form_no hK14 x (by rw [hf]; exact List.mem_of_getElem? hx)
    have HF := Lib.hid hf
    have HFL := Lib.hid hfl
    have HWB := Lib.hid hwb
    have HWV := Lib.hid hwv
    have HAT := Lib.hid hat
    have HND := Lib.hid hneed
    have HONE := Lib.hid hone
    have hlq : q < tb.size := by omega
    have htq := hat q hlq fc hfq
    have HTQ := Lib.hid htq
    have HK10 := Lib.hid hk10
    clear hf hg hgf hfq hlast hneed hone htb hat hwb hwv htq hfl hk10
    go_upto_region 4 with fail
    go_cut [5] (fun v wx => v = .string tb ∧ Hid (Blk R (opC opp0 nl nl nl nl) 108 wx ∧ Below w.heap.size w wx))
    case first =>
      go_wp2_with fail
      refine (hform _).mono ?_
      rintro e w2 ⟨rfl, hb2⟩
      go_wp2_with fail
      go_meet
      exact ⟨rfl, Lib.hid ⟨hB1.on hb2, hbl1.trans (hb2.mono hbl1.size)⟩⟩
    obtain ⟨rfl, HX⟩ := hcut
    clear hB1 hbl1 hform
    have HXX := HX
    clear HX
    have i1 : ((q + 1 : Nat) : Int) - 1 = (q : Int) := by omega
    have i2 : (q : Int) < (tb.size : Int) := by omega
    have i3 : ((n1 + 1 : Nat) : Int) - 1 = (n1 : Int) := by omega
    have hn9 : n1 ≤ 2000000 := by omega
    go_upto_region 5 with fail
    obtain ⟨lb, hlb⟩ : ∃ b, (decide (fc = 67) || decide (fc = 70)) = b := ⟨_, rfl⟩
    have HLB := Lib.hid hlb
    clear hlb
    go_cut [6] (fun v wx => v = .bool lb ∧ wx = wc)
    case first =>
      by_cases h1 : fc = 67
      · have hx : (((tb[q]'hlq).toNat : Nat) : Int) = 99 := by rw [HTQ.out, h1]; rfl
        have HV : Hid (lb = true) := Lib.hid (by rw [← HLB.out, h1]; rfl)
        clear h1
        go_wp2_with fail
        go_meet
        exact ⟨by rw [HV.out], rfl⟩
      · by_cases h2 : fc = 70
        · have hx : (((tb[q]'hlq).toNat : Nat) : Int) = 102 := by rw [HTQ.out, h2]; rfl
          have HV : Hid (lb = true) := Lib.hid (by rw [← HLB.out, h2]; rfl)
          clear h1 h2
          go_wp2_with fail
          go_meet
          exact ⟨by rw [HV.out], rfl⟩
        · obtain ⟨x, hx⟩ : ∃ x : Int, (((tb[q]'hlq).toNat : Nat) : Int) = x := ⟨_, rfl⟩
          have hxf : lowS fc ≠ 99 ∧ lowS fc ≠ 102 := by
            have := HMEM.out
            unfold lowS
            rw [if_neg h1]
            split
            · decide
            · first | exact this | (rw [if_neg h2]; exact this)
          have e1 : (x == 99) = false := by
            rw [beq_eq_false_iff_ne, ← hx, HTQ.out]; intro e; exact hxf.1 (UInt8.toNat_inj.1 (by show _ = 99; omega))
          have e2 : (x == 102) = false := by
            rw [beq_eq_false_iff_ne, ← hx, HTQ.out]; intro e; exact hxf.2 (UInt8.toNat_inj.1 (by show _ = 102; omega))
          have HV : Hid (lb = false) := Lib.hid (by rw [← HLB.out]; simp [h1, h2])
          clear h1 h2 hxf
          go_wp2_with fail
          go_meet
          exact ⟨by rw [HV.out], rfl⟩
    obtain ⟨rfl, HEQ⟩ := hcut
    subst HEQ
    go_upto_region 7 with fail
    go_cut [61] (fun v wx => v = .bool (!wb) ∧ wx = wc)
    case first =>
      by_cases h1 : fc = 67
      · have hk : ((K : Int) == 10) = false := by rw [HK10.out, h1]; rfl
        obtain rfl : lb = true := by rw [← HLB.out, h1]; rfl
        have hv := HWV.out
        rw [if_pos h1] at hv
        by_cases m : 1 ≤ n1
        · have HV : Hid (wb = true) := Lib.hid (by rw [hv]; exact decide_eq_true m)
          have m1 : ¬ (n1 : Int) < 1 := by omega
          clear hv h1
          go_wp2_with fail
          go_meet
          exact ⟨by rw [HV.out]; rfl, rfl⟩
        · have HV : Hid (wb = false) := Lib.hid (by rw [hv]; exact decide_eq_false m)
          have m1 : (n1 : Int) < 1 := by omega
          clear hv h1
          go_wp2_with fail
          go_meet
          exact ⟨by rw [HV.out]; rfl, rfl⟩
      · by_cases h2 : fc = 70
        · have hk : ((K : Int) == 10) = true := by rw [HK10.out, h2]; rfl
          obtain rfl : lb = true := by rw [← HLB.out, h2]; rfl
          have hv := HWV.out
          rw [if_neg h1, if_pos h2] at hv
          by_cases m : n1 % 2 = 1
          · have HV : Hid (wb = true) := Lib.hid (by rw [hv]; exact decide_eq_true m)
            have m1 : ¬ (n1 : Int) < 1 := by omega
            have m2 : Int.tmod (n1 : Int) 2 = 1 := by rw [Int.tmod_eq_emod_of_nonneg (by omega)]; omega
            clear hv h1 h2 m
            go_wp2_with fail
            go_meet
            exact ⟨by rw [HV.out]; rfl, rfl⟩
          · have HV : Hid (wb = false) := Lib.hid (by rw [hv]; exact decide_eq_false m)
            have m2 : Int.tmod (n1 : Int) 2 = 0 := by rw [Int.tmod_eq_emod_of_nonneg (by omega)]; omega
            clear hv h1 h2 m
            by_cases m3 : n1 < 1
            · have m1 : (n1 : Int) < 1 := by omega
              go_wp2_with fail
              go_meet
              exact ⟨by rw [HV.out]; rfl, rfl⟩
            · have m1 : ¬ (n1 : Int) < 1 := by omega
              go_wp2_with fail
              go_meet
              exact ⟨by rw [HV.out]; rfl, rfl⟩
        · have hk : ((K : Int) == 10) = false := by rw [HK10.out]; exact decide_eq_false h2
          obtain rfl : lb = false := by rw [← HLB.out]; simp [h1, h2]
          have hv := HWV.out
          rw [if_neg h1, if_neg h2] at hv
          by_cases m : n1 = q + 1
          · have HV : Hid (wb = true) := Lib.hid (by rw [hv]; exact decide_eq_true m)
            clear hv h1 h2
            subst m
            go_wp2_with fail
            go_meet
            exact ⟨by rw [HV.out]; rfl, rfl⟩
          · have HV : Hid (wb = false) := Lib.hid (by rw [hv]; exact decide_eq_false m)
            have m1 : ((n1 : Int) != (q : Int) + 1) = true := by rw [bne_iff_ne]; omega
            clear hv h1 h2 m
            go_wp2_with fail
            go_meet
            exact ⟨by rw [HV.out]; rfl, rfl⟩
    obtain ⟨rfl, HEQ⟩ := hcut
    subst HEQ
    obtain ⟨hB1, hbl1⟩ := HXX.out
    clear HXX
    obtain ⟨r0, r1, r2, r3, r4, r5, r6, r7, r8, r9, r10, r11, r12, r13, fr0⟩ := opC_cells hB1
    simp only [opp0, nl] at r0 r1 r2 r3 r4 r5 r6 r7 r8 r9 r10 r11 r12 r13
    cases wb with
    | false =>
      have HC : Hid (stepS (a :: ws) = .error 226) := Lib.hid (by rw [stepS_cons, HK.out, if_neg hK0, HF.out, HN1.out, if_pos HWB.out])
      clear hK0
      go_wp2
      refine close_rstep hB1 rfl 226 rfl rfl fun W8 hb8 ho8 => ⟨⟨opp0, nl, nl, nl, nl, sl_slice _ _ _, sl_slice _ _ _, sl_slice _ _ _, sl_slice _ _ _, ?_⟩, hb8 _ _ hRw hbl1⟩
      rw [HC.out]; exact rfl
    | true =>
      have HC : Hid (stepS (a :: ws) = flds { opp0 with kind := (K : Int) } f ws) := Lib.hid (by rw [stepS_cons, HK.out, if_neg hK0, HF.out, HN1.out, if_neg (by rw [HWB.out]; simp)])
      have HND2 := Lib.hid (HND.out HWB.out)
      clear hK0
      have hRlt := hB1.lt
      have hBP : Blk wc.heap.size (opC { opp0 with kind := (K : Int) } nl nl nl nl) 108 (wc.alloc (.cells (opC { opp0 with kind := (K : Int) } nl nl nl nl) 108)) := blk_new wc _ _
      have hBR : Blk R (opC opp0 nl nl nl nl) 108 (wc.alloc (.cells (opC { opp0 with kind := (K : Int) } nl nl nl nl) 108)) := hB1.on (one wc _)
      have hblP : Below w.heap.size w (wc.alloc (.cells (opC { opp0 with kind := (K : Int) } nl nl nl nl) 108)) := hbl1.alloc hbl1.size _
      have hwP : w.heap.size ≤ wc.heap.size := hbl1.size
      go_wp2
      clear r0 r1 r2 r3 r4 r5 r6 r7 r8 r9 r10 r11 r12 r13 fr0 hB1 hbl1
      obtain ⟨P, hP⟩ : ∃ P, wc.heap.size = P := ⟨_, rfl⟩
      rw [hP] at hBP hRlt hwP ⊢
      clear hP
      go_loopw [9, 10] (fun ev iv wr => ∃ (pos : Nat) (op : Opp) (Ad Ac Af Ab : Option Addr) (nd nc nf nb cd cc cf cb : Nat) (kvs : List Value) (x : Int), pos ≤ q + 1 ∧ iv = .int .i64 (pos : Int) ∧ ev = .int .i64 x ∧ Blk P (opC op (.slice Ad nd cd) (.slice Ac nc cc) (.slice Af nf cf) (.slice Ab nb cb)) 108 wr ∧ Blk R (opC opp0 nl nl nl nl) 108 wr ∧ Below w.heap.size w wr ∧ Hid ((x = 0 ∧ stepS (a :: ws) = flds op (f.drop pos) (ws.drop pos) ∧ OpO w.heap.size op (.slice Ad nd cd) (.slice Ac nc cc) (.slice Af nf cf) (.slice Ab nb cb) kvs wr) ∨ (x ≠ 0 ∧ stepS (a :: ws) = .error x))) (fun _ iv _ => q + 1 - (intOf iv).toNat)
      case atStart => exact ⟨0, { opp0 with kind := (K : Int) }, none, none, none, none, 0, 0, 0, 0, 0, 0, 0, 0, [], 0, Nat.zero_le _, rfl, rfl, hBP, hBR, hblP, Lib.hid (.inl ⟨rfl, HC.out, ⟨World.ownsRow_nil _ _ _ _, CRow.nil _ _, World.ownsRow_nil _ _ _ _, World.ownsRow_nil _ _ _ _, fun i u g hu => by simp at hu⟩⟩)⟩
      case round =>
        obtain ⟨pos, op, Ad, Ac, Af, Ab, nd, nc, nf, nb, cd, cc, cf, cb, kvs, x, hpos, rfl, rfl, hPb, hRb, hbl, HH⟩ := hrel
        clear hBP hBR hblP HC
        have hRP : R ≠ P := by omega
        by_cases hx0 : x = 0
        · subst hx0
          obtain ⟨-, hst0, hO⟩ := HH.out.resolve_right (fun h => h.1 rfl)
          clear HH
          by_cases hlt : pos < q + 1
          · obtain ⟨lx, hlx⟩ : ∃ x, f[pos]? = some x := ⟨_, List.getElem?_eq_getElem (by rw [HFL.out]; exact hlt)⟩
            have hlt2 : pos < tb.size := by omega
            have htx := HAT.out pos hlt2 lx hlx
            obtain ⟨hxx, hpn, hpl⟩ := HND2.out pos lx hlx
            have hst := flds_at op (ws := ws) hlx
            rw [← hst0] at hst
            have HST := Lib.hid hst
            have i5 : (pos : Int) < (q : Int) + 1 := by omega
            have i6 : (pos : Int) < (tb.size : Int) := by omega
            have hpw := hPb.lt
            have hrw := hRb.lt
            have hone := HONE.out pos lx hlx
            have hno := HNO.out pos lx hlx
            clear hst hst0 hlx
            by_cases c67 : lx = 67
            · clear hno
              have hp1 := hone (.inl c67)
              have hz : (((tb[pos]'hlt2).toNat : Nat) : Int) = 99 := by rw [htx, c67]; rfl
              obtain ⟨A2, c2, hcut, hc2, hs2⟩ := cut_from HS.out HN.out hc 2 (by omega)
              have hcut' := fun W => hcut W 2 rfl
              have HLD : Hid (((a :: ws).drop 2).length = n1 - 1) := Lib.hid (by rw [List.length_drop, HN.out]; omega)
              have hw2 : ∀ y ∈ (a :: ws).drop 2, y.length ≤ 2000000 := fun y hy => HW.out y (List.mem_of_mem_drop hy)
              obtain ⟨r, hr⟩ : ∃ r, chgs ((a :: ws).drop 2) = r := ⟨_, rfl⟩
              have HR := Lib.hid hr
              have hr2 : chgs (ws.drop pos) = r := by rw [hp1]; exact hr
              have HF67 : Hid (fld op lx (ws.drop pos) = exM r (fun l => { op with chs := l })) := Lib.hid (by rw [c67, fld_67, hr2])
              have hs3 := (hs2.below hbl).more hbl.size
              have i7 : (2 : Int) ≤ (n1 : Int) + 1 := by omega
              have i8 : 1 ≤ n1 := by omega
              clear hr hr2 hcut hs2 htx hxx hpl c67 hone hp1
              go_wp2_with fail
              refine (rchanges_as HLD HR A2 c2 wr (hE.on hbl) (by omega) (by omega) hs3 hw2).mono ?_
              rintro e w4 ⟨hres, hb4⟩
              have hP4 := hPb.on hb4
              have hR4 := hRb.on hb4
              have hO4 := hO.on hb4
              have hbl4 := hbl.trans (hb4.mono hbl.size)
              have hdl : ∀ g, (Value.slice Ad nd cd).ownBlock = some g → g < wr.heap.size := fun g hg => (hO.data.lt g hg).2
              obtain ⟨e0, e1, e2, e3, e4, e5, e6, e7, e8, e9, e10, e11, e12, e13, fr⟩ := opC_cells hP4
              clear hPb hRb hO
              cases r with
              | error y =>
                obtain rfl := hres
                have hy : y ≠ 0 := chgs_err HR.out
                have HE : Hid (stepS (a :: ws) = .error y) := Lib.hid (by rw [HST.out, HF67.out]; rfl)
                have hP5 : Blk P (opC op (.slice Ad nd cd) (.slice none 0 0) (.slice Af nf cf) (.slice Ab nb cb)) 108 (w4.setCell ⟨P, 11, none⟩ (.slice none 0 0)) := hP4.set 11 (.slice none 0 0)
                have hR5 : Blk R (opC opp0 nl nl nl nl) 108 (w4.setCell ⟨P, 11, none⟩ (.slice none 0 0)) := (Below.heap_setCell w4 ⟨P, 11, none⟩ _ R hRP).trans hR4
                have hbl5 := hbl4.setCell (p := ⟨P, 11, none⟩) hwP (.slice none 0 0)
                clear hb4
                go_wp2
                go_roundw
                case rel => exact ⟨pos + 1, op, Ad, none, Af, Ab, nd, 0, nf, nb, cd, 0, cf, cb, [], y, hlt, by go_num, rfl, hP5, hR5, hbl5, Lib.hid (.inr ⟨hy, HE.out⟩)⟩
                case measure => simp [intOf]; omega
              | ok l =>
                obtain ⟨A5, k5, kvs5, rfl, hrow⟩ := hres
                have HE : Hid (stepS (a :: ws) = flds { op with chs := l } (f.drop (pos + 1)) (ws.drop (pos + 1))) := Lib.hid (by rw [HST.out, HF67.out]; rfl)
                have hap : ∀ (i : Nat) u g, kvs5[i]? = some u → u.ownBlock = some g → (Value.slice Ad nd cd).ownBlock ≠ some g := fun i u g hu hg e => by
                  obtain ⟨d, hd⟩ : ∃ d, l[i]? = some d := ⟨_, List.getElem?_eq_getElem (by rw [← hrow.len]; exact (List.getElem?_eq_some_iff.1 hu).1)⟩
                  have h1 := ((hrow.own i d u hd hu).lt g hg).1
                  have h2 := hdl g e
                  omega
                have hO5 : OpO w.heap.size { op with chs := l } (.slice Ad nd cd) (.slice A5 l.length k5) (.slice Af nf cf) (.slice Ab nb cb) kvs5 w4 := ⟨hO4.data, hrow.low hbl.size, hO4.fls, hO4.keep, hap⟩
                have HO5 := Lib.hid (hO5.set (j := 11) hP4 (.slice A5 l.length k5))
                obtain ⟨nl5, hnl⟩ : ∃ n, l.length = n := ⟨_, rfl⟩
                rw [hnl] at HO5 ⊢
                have hP5 : Blk P (opC { op with chs := l } (.slice Ad nd cd) (.slice A5 nl5 k5) (.slice Af nf cf) (.slice Ab nb cb)) 108 (w4.setCell ⟨P, 11, none⟩ (.slice A5 nl5 k5)) := hP4.set 11 (.slice A5 nl5 k5)
                have hR5 : Blk R (opC opp0 nl nl nl nl) 108 (w4.setCell ⟨P, 11, none⟩ (.slice A5 nl5 k5)) := (Below.heap_setCell w4 ⟨P, 11, none⟩ _ R hRP).trans hR4
                have hbl5 := hbl4.setCell (p := ⟨P, 11, none⟩) hwP (.slice A5 nl5 k5)
                clear hb4 hrow hap hO5 hnl hO4
                go_wp2
                go_roundw
                case rel => exact ⟨pos + 1, { op with chs := l }, Ad, A5, Af, Ab, nd, nl5, nf, nb, cd, k5, cf, cb, kvs5, 0, hlt, by go_num, rfl, hP5, hR5, hbl5, Lib.hid (.inl ⟨rfl, HE.out, HO5.out⟩)⟩
                case measure => simp [intOf]; omega
            · by_cases c70 : lx = 70
              · clear hno
                have hp1 := hone (.inr c70)
                have hz : (((tb[pos]'hlt2).toNat : Nat) : Int) = 102 := by rw [htx, c70]; rfl
                obtain ⟨A2, c2, hcut, hc2, hs2⟩ := cut_from HS.out HN.out hc 2 (by omega)
                have hcut' := fun W => hcut W 2 rfl
                have HLD : Hid (((a :: ws).drop 2).length = n1 - 1) := Lib.hid (by rw [List.length_drop, HN.out]; omega)
                have hw2 : ∀ y ∈ (a :: ws).drop 2, y.length ≤ 2000000 := fun y hy => HW.out y (List.mem_of_mem_drop hy)
                obtain ⟨r, hr⟩ : ∃ r, flts ((a :: ws).drop 2) = r := ⟨_, rfl⟩
                have HR := Lib.hid hr
                have hr2 : flts (ws.drop pos) = r := by rw [hp1]; exact hr
                have HF67 : Hid (fld op lx (ws.drop pos) = exM r (fun l => { op with fls := l })) := Lib.hid (by rw [c70, fld_70, hr2])
                have hs3 := (hs2.below hbl).more hbl.size
                have i7 : (2 : Int) ≤ (n1 : Int) + 1 := by omega
                have i8 : 1 ≤ n1 := by omega
                clear hr hr2 hcut hs2 htx hxx hpl c67 c70 hone hp1
                go_wp2_with fail
                refine (rfaults_as HLD HR A2 c2 wr (by omega) (by omega) hs3 hw2).mono ?_
                rintro e w4 ⟨hres, hb4⟩
                have hP4 := hPb.on hb4
                have hR4 := hRb.on hb4
                have hO4 := hO.on hb4
                have hbl4 := hbl.trans (hb4.mono hbl.size)
                obtain ⟨e0, e1, e2, e3, e4, e5, e6, e7, e8, e9, e10, e11, e12, e13, fr⟩ := opC_cells hP4
                clear hPb hRb hO
                cases r with
                | error y =>
                  obtain rfl := hres
                  have hy : y ≠ 0 := flts_err _ _ _ (Nat.le_refl _) HR.out
                  have HE : Hid (stepS (a :: ws) = .error y) := Lib.hid (by rw [HST.out, HF67.out]; rfl)
                  have hP5 : Blk P (opC op (.slice Ad nd cd) (.slice Ac nc cc) (.slice none 0 0) (.slice Ab nb cb)) 108 (w4.setCell ⟨P, 12, none⟩ (.slice none 0 0)) := hP4.set 12 (.slice none 0 0)
                  have hR5 : Blk R (opC opp0 nl nl nl nl) 108 (w4.setCell ⟨P, 12, none⟩ (.slice none 0 0)) := (Below.heap_setCell w4 ⟨P, 12, none⟩ _ R hRP).trans hR4
                  have hbl5 := hbl4.setCell (p := ⟨P, 12, none⟩) hwP (.slice none 0 0)
                  clear hb4
                  go_wp2
                  go_roundw
                  case rel => exact ⟨pos + 1, op, Ad, Ac, none, Ab, nd, nc, 0, nb, cd, cc, 0, cb, kvs, y, hlt, by go_num, rfl, hP5, hR5, hbl5, Lib.hid (.inr ⟨hy, HE.out⟩)⟩
                  case measure => simp [intOf]; omega
                | ok l =>
                  obtain ⟨A5, k5, rfl, hrow⟩ := hres
                  have HE : Hid (stepS (a :: ws) = flds { op with fls := l } (f.drop (pos + 1)) (ws.drop (pos + 1))) := Lib.hid (by rw [HST.out, HF67.out]; rfl)
                  have hO5 : OpO w.heap.size { op with fls := l } (.slice Ad nd cd) (.slice Ac nc cc) (.slice A5 l.length k5) (.slice Ab nb cb) kvs w4 := ⟨hO4.data, hO4.chs, own_low hrow hbl.size, hO4.keep, hO4.ap⟩
                  have HO5 := Lib.hid (hO5.set (j := 12) hP4 (.slice A5 l.length k5))
                  obtain ⟨nl5, hnl⟩ : ∃ n, l.length = n := ⟨_, rfl⟩
                  rw [hnl] at HO5 ⊢
                  have hP5 : Blk P (opC { op with fls := l } (.slice Ad nd cd) (.slice Ac nc cc) (.slice A5 nl5 k5) (.slice Ab nb cb)) 108 (w4.setCell ⟨P, 12, none⟩ (.slice A5 nl5 k5)) := hP4.set 12 (.slice A5 nl5 k5)
                  have hR5 : Blk R (opC opp0 nl nl nl nl) 108 (w4.setCell ⟨P, 12, none⟩ (.slice A5 nl5 k5)) := (Below.heap_setCell w4 ⟨P, 12, none⟩ _ R hRP).trans hR4
                  have hbl5 := hbl4.setCell (p := ⟨P, 12, none⟩) hwP (.slice A5 nl5 k5)
                  clear hb4 hrow hO5 hnl hO4
                  go_wp2
                  go_roundw
                  case rel => exact ⟨pos + 1, { op with fls := l }, Ad, Ac, A5, Ab, nd, nc, nl5, nb, cd, cc, k5, cb, kvs, 0, hlt, by go_num, rfl, hP5, hR5, hbl5, Lib.hid (.inl ⟨rfl, HE.out, HO5.out⟩)⟩
                  case measure => simp [intOf]; omega
              · clear hno
                have hpl2 := hpl c70 c67
                obtain ⟨y, hy⟩ : ∃ y, ws[pos]? = some y := ⟨_, List.getElem?_eq_getElem (by rw [HN1.out]; exact hpl2)⟩
                obtain ⟨r, hr⟩ : ∃ r, ws.drop (pos + 1) = r := ⟨_, rfl⟩
                have hyr : ws.drop pos = y :: r := by
                  obtain ⟨h1, e1⟩ := List.getElem?_eq_some_iff.1 hy
                  rw [List.drop_eq_getElem_cons h1, e1, hr]
                rw [hyr] at HST
                have hyl := HW.out y (List.mem_cons_of_mem _ (List.mem_of_getElem? hy))
                have cy := (hbl.drew.cell (p := ⟨bb, o + (pos + 1), none⟩) hbw).trans (HCL.out (pos + 1) y (by simpa using hy))
                unfold strc at cy
                have hx4 : lx = 72 ∨ lx = 83 ∨ lx = 66 ∨ isNum lx := by
                  rcases hxx with h | h | h | h | h | h
                  · exact .inl h
                  · exact .inr (.inl h)
                  · exact .inr (.inr (.inl h))
                  · exact absurd h c70
                  · exact absurd h c67
                  · exact .inr (.inr (.inr h))
                obtain ⟨z, hz⟩ : ∃ z : Int, ((lowS lx).toNat : Int) = z := ⟨_, rfl⟩
                have hz9 : z ≠ 99 ∧ z ≠ 102 := by
                  rw [← hz]
                  rcases hx4 with rfl | rfl | rfl | rfl | rfl | rfl | rfl | rfl | rfl | rfl <;> decide
                have HZ := Lib.hid hz
                have htz : (((tb[pos]'hlt2).toNat : Nat) : Int) = z := by rw [htx]; exact hz
                have z1 : (z == 99) = false := by rw [beq_eq_false_iff_ne]; exact hz9.1
                have z2 : (z == 102) = false := by rw [beq_eq_false_iff_ne]; exact hz9.2
                have j7 : (pos : Int) + 1 < (n1 : Int) + 1 := by omega
                have jw : IntKind.i64.wrap ((pos : Int) + 1) = (pos : Int) + 1 := IntWalk.i64_in _ ⟨by omega, by omega⟩
                have j8 : (0 : Int) ≤ (pos : Int) + 1 := by omega
                have j9 : ((pos : Int) + 1).toNat = pos + 1 := by omega
                have hd : Below wr.heap.size wr wr.drew := (Below.refl _ wr).drew
                have hPd := hPb.on hd
                have hRd := hRb.on hd
                have hbld := hbl.drew
                have hcall := rfill_any lx HZ hx4 w.heap.size op Ad Ac Af Ab nd nc nf nb cd cc cf cb kvs y r wr.drew (hO.on hd) hbld.size hyl
                obtain ⟨e0, e1, e2, e3, e4, e5, e6, e7, e8, e9, e10, e11, e12, e13, fr⟩ := opC_cells hPd
                have HPd := Lib.hid hPd
                have HRd := Lib.hid hRd
                clear hxx hpl hpl2 hone hy hyr hr hz hz9 htx hd hPb hRb hO c67 c70 hx4 hPd hRd
                have HFE : Hid (∀ x, fld op lx (y :: r) = .error x → x ≠ 0) := Lib.hid fun x h => fld_err h
                have HNX : Hid (∀ o6, fld op lx (y :: r) = .ok o6 → stepS (a :: ws) = flds o6 (f.drop (pos + 1)) (ws.drop (pos + 1))) := Lib.hid fun o6 h => by rw [HST.out, h]
                have HNE : Hid (∀ v, fld op lx (y :: r) = .error v → stepS (a :: ws) = .error v) := Lib.hid fun v h => by rw [HST.out, h]
                obtain ⟨rf, hrf⟩ : ∃ q, fld op lx (y :: r) = q := ⟨_, rfl⟩
                rw [hrf] at hcall HFE HNX HNE
                simp only [opC] at hcall
                clear hrf HST
                go_upto_region 15 with fail
                go_region_law (first
                  | (go_simp; go_at_call 143; with_reducible refine hcall.mono ?_; rintro e w4 ⟨hres, hb4⟩; obtain ⟨o5, Ad5, nd5, cd5, Ab5, nb5, cb5, x5, rfl, hor⟩ := hres.uni HFE.out; have HOR := Lib.hid hor; have hP4 := HPd.out.on hb4; have hR4 := HRd.out.on hb4; have hbl4 := hbld.trans (hb4.mono hbld.size); obtain ⟨k0, k1, k2, k3, k4, k5, k6, k7, k8, k9, k10, k11, k12, k13, kfr⟩ := opC_cells hP4; simp only [opC]))
                all_goals
                  clear e0 e1 e2 e3 e4 e5 e6 e7 e8 e9 e10 e11 e12 e13 fr k0 k1 k2 k3 k4 k5 k6 k7 k8 k9 k10 k11 k12 k13 kfr cy hres hcall hor
                  have HFIN : Hid ((x5 = 0 ∧ stepS (a :: ws) = flds o5 (f.drop (pos + 1)) (ws.drop (pos + 1)) ∧ OpO w.heap.size o5 (.slice Ad5 nd5 cd5) (.slice Ac nc cc) (.slice Af nf cf) (.slice Ab5 nb5 cb5) kvs (put14 w4 P (.int .i64 o5.kind) (.int .i64 o5.a) (.int .i64 o5.k) (.int .i64 o5.t) (.int .i64 o5.x) (.int .i64 o5.link) (.slice Ad5 nd5 cd5) (.int .i64 o5.sec) (.int .i64 o5.nano) (.int .i64 o5.blk) (.int .i64 o5.wid) (.slice Ac nc cc) (.slice Af nf cf) (.slice Ab5 nb5 cb5))) ∨ (x5 ≠ 0 ∧ stepS (a :: ws) = .error x5)) := Lib.hid (by
                    rcases HOR.out with ⟨h1, h2, h3⟩ | ⟨h1, h2⟩
                    · exact .inl ⟨h1, HNX.out _ h2, h3.rest hP4 (fun g hg => put14_other w4 hg _ _ _ _ _ _ _ _ _ _ _ _ _ _)⟩
                    · exact .inr ⟨h1, HNE.out _ h2⟩)
                  have hP5 := put14_blk hP4 rfl (.int .i64 o5.kind) (.int .i64 o5.a) (.int .i64 o5.k) (.int .i64 o5.t) (.int .i64 o5.x) (.int .i64 o5.link) (.slice Ad5 nd5 cd5) (.int .i64 o5.sec) (.int .i64 o5.nano) (.int .i64 o5.blk) (.int .i64 o5.wid) (.slice Ac nc cc) (.slice Af nf cf) (.slice Ab5 nb5 cb5)
                  have hR5 := (put14_other w4 hRP (.int .i64 o5.kind) (.int .i64 o5.a) (.int .i64 o5.k) (.int .i64 o5.t) (.int .i64 o5.x) (.int .i64 o5.link) (.slice Ad5 nd5 cd5) (.int .i64 o5.sec) (.int .i64 o5.nano) (.int .i64 o5.blk) (.int .i64 o5.wid) (.slice Ac nc cc) (.slice Af nf cf) (.slice Ab5 nb5 cb5)).trans hR4
                  have hbl5 := put14_below hbl4 hwP (.int .i64 o5.kind) (.int .i64 o5.a) (.int .i64 o5.k) (.int .i64 o5.t) (.int .i64 o5.x) (.int .i64 o5.link) (.slice Ad5 nd5 cd5) (.int .i64 o5.sec) (.int .i64 o5.nano) (.int .i64 o5.blk) (.int .i64 o5.wid) (.slice Ac nc cc) (.slice Af nf cf) (.slice Ab5 nb5 cb5)
                  change Exit.inBlock _ _ _ _ (put14 w4 P (.int .i64 o5.kind) (.int .i64 o5.a) (.int .i64 o5.k) (.int .i64 o5.t) (.int .i64 o5.x) (.int .i64 o5.link) (.slice Ad5 nd5 cd5) (.int .i64 o5.sec) (.int .i64 o5.nano) (.int .i64 o5.blk) (.int .i64 o5.wid) (.slice Ac nc cc) (.slice Af nf cf) (.slice Ab5 nb5 cb5))
                  generalize (put14 w4 P (.int .i64 o5.kind) (.int .i64 o5.a) (.int .i64 o5.k) (.int .i64 o5.t) (.int .i64 o5.x) (.int .i64 o5.link) (.slice Ad5 nd5 cd5) (.int .i64 o5.sec) (.int .i64 o5.nano) (.int .i64 o5.blk) (.int .i64 o5.wid) (.slice Ac nc cc) (.slice Af nf cf) (.slice Ab5 nb5 cb5)) = W5 at HFIN hP5 hR5 hbl5 ⊢
                  clear hP4 hR4 hbl4 hb4 HOR
                  go_wp2
                  go_roundw
                  case rel => exact ⟨pos + 1, o5, Ad5, Ac, Af, Ab5, nd5, nc, nf, nb5, cd5, cc, cf, cb5, kvs, x5, hlt, by go_num, rfl, hP5, hR5, hbl5, HFIN⟩
                  case measure => simp [intOf]; omega

          · have hE3 : Hid (stepS (a :: ws) = .ok op) := Lib.hid (by
              rw [hst0, List.drop_of_length_le (by rw [HFL.out]; omega), flds])
            have i5 : ¬ (pos : Int) < (q : Int) + 1 := by omega
            have HO := Lib.hid hO
            obtain ⟨e0, e1, e2, e3, e4, e5, e6, e7, e8, e9, e10, e11, e12, e13, fr⟩ := opC_cells hPb
            obtain ⟨r0, r1, r2, r3, r4, r5, r6, r7, r8, r9, r10, r11, r12, r13, fr0⟩ := opC_cells hRb
            simp only [opp0, nl] at r0 r1 r2 r3 r4 r5 r6 r7 r8 r9 r10 r11 r12 r13
            clear hst0 hO hlt
            go_wp2
            refine close_rstep hRb rfl 0 rfl rfl fun W8 hb8 ho8 => ⟨⟨op, .slice Ad nd cd, .slice Ac nc cc, .slice Af nf cf, .slice Ab nb cb, sl_slice _ _ _, sl_slice _ _ _, sl_slice _ _ _, sl_slice _ _ _, ?_⟩, hb8 _ _ hRw hbl⟩
            rw [hE3.out]
            exact ⟨rfl, rfl, kvs, HO.out.rest hRb ho8⟩
        · have hE3 : Hid (stepS (a :: ws) = .error x) := Lib.hid (HH.out.resolve_left (fun h => hx0 h.1)).2
          have j1 : (x == 0) = false := by rw [beq_eq_false_iff_ne]; exact hx0
          have j2 : (x != 0) = true := by rw [bne_iff_ne]; exact hx0
          obtain ⟨r0, r1, r2, r3, r4, r5, r6, r7, r8, r9, r10, r11, r12, r13, fr0⟩ := opC_cells hRb
          simp only [opp0, nl] at r0 r1 r2 r3 r4 r5 r6 r7 r8 r9 r10 r11 r12 r13
          clear HH
          by_cases hlt : pos < q + 1
          · have i5 : (pos : Int) < (q : Int) + 1 := by omega
            go_wp2
            refine close_rstep hRb rfl x rfl rfl fun W8 hb8 ho8 => ⟨⟨opp0, nl, nl, nl, nl, sl_slice _ _ _, sl_slice _ _ _, sl_slice _ _ _, sl_slice _ _ _, ?_⟩, hb8 _ _ hRw hbl⟩
            rw [hE3.out]; exact rfl
          · have i5 : ¬ (pos : Int) < (q : Int) + 1 := by omega
            go_wp2
            refine close_rstep hRb rfl x rfl rfl fun W8 hb8 ho8 => ⟨⟨opp0, nl, nl, nl, nl, sl_slice _ _ _, sl_slice _ _ _, sl_slice _ _ _, sl_slice _ _ _, ?_⟩, hb8 _ _ hRw hbl⟩
            rw [hE3.out]; exact rfl
end Go.Proofs.YtpkmekdpmkfcdaaGreatDoor.Sr
