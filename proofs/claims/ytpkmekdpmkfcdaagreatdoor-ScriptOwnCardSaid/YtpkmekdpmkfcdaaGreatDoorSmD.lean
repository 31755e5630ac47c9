/- Contract: the words of a step. Contract: the words of a line, one a round. Contracts: a text cut at a byte; all words of a line. -/
import Derived.Test.YtpkmekdpmkfcdaaGreatDoorSmC
import Derived.Deep.DeepCutAuto
import Derived.Test.YtpkmekdpmkfcdaaGreatDoorSmA
import Derived.Test.YtpkmekdpmkfcdaaGreatDoorMG
import Derived.RangeFuncMany
import Derived.RangeFuncKeeps
import Derived.RangeFuncFrom
import Derived.RangeFuncBox
namespace Go.Proofs.YtpkmekdpmkfcdaaGreatDoor.Sr
set_option linter.unusedVariables false
set_option linter.unusedSimpArgs false
open Go.RowKit Go.Proofs.YtpkmekdpmkfcdaaGreatDoor.Wd Go.Proofs.YtpkmekdpmkfcdaaGreatDoor.Px Go.Proofs.YtpkmekdpmkfcdaaGreatDoor.By Go.Proofs.YtpkmekdpmkfcdaaGreatDoor.En Go.Proofs.YtpkmekdpmkfcdaaGreatDoor.Pl Go.Proofs.YtpkmekdpmkfcdaaGreatDoor.Pf Go.Proofs.YtpkmekdpmkfcdaaGreatDoor.Sc
def nl : Value := .slice none 0 0
theorem opC_cells {W : World} {R : Nat} {o : Opp} {dv cv fv bv : Value} {t : TypeId} (h : Blk R (opC o dv cv fv bv) t W) :
  W.cell? ⟨R,0,none⟩ = some (.int .i64 o.kind) ∧ W.cell? ⟨R,1,none⟩ = some (.int .i64 o.a) ∧ W.cell? ⟨R,2,none⟩ = some (.int .i64 o.k) ∧ W.cell? ⟨R,3,none⟩ = some (.int .i64 o.t) ∧ W.cell? ⟨R,4,none⟩ = some (.int .i64 o.x) ∧ W.cell? ⟨R,5,none⟩ = some (.int .i64 o.link) ∧ W.cell? ⟨R,6,none⟩ = some dv
  ∧ W.cell? ⟨R,7,none⟩ = some (.int .i64 o.sec) ∧ W.cell? ⟨R,8,none⟩ = some (.int .i64 o.nano) ∧ W.cell? ⟨R,9,none⟩ = some (.int .i64 o.blk) ∧ W.cell? ⟨R,10,none⟩ = some (.int .i64 o.wid) ∧ W.cell? ⟨R,11,none⟩ = some cv ∧ W.cell? ⟨R,12,none⟩ = some fv ∧ W.cell? ⟨R,13,none⟩ = some bv ∧ ∀ o,W.frozen? ⟨R,o,none⟩ = false :=
 ⟨h.cell rfl,h.cell rfl,h.cell rfl,h.cell rfl,h.cell rfl,h.cell rfl,h.cell rfl,h.cell rfl,h.cell rfl,h.cell rfl,h.cell rfl,h.cell rfl,h.cell rfl,h.cell rfl,h.open_⟩
def StepR (r : Except Int Opp) (w : World) (e : Ending) (w' : World) : Prop := ∃ o dv cv fv bv,SlV dv ∧ SlV cv ∧ SlV fv ∧ SlV bv ∧ match r with
 | .ok o2 => o2 = o ∧ e = .returned (.tuple #[.agg (opC o dv cv fv bv),.int .i64 0]) ∧ ∃ kvs,OpO w.heap.size o dv cv fv bv kvs w'
 | .error x => e = .returned (.tuple #[.agg (opC o dv cv fv bv),.int .i64 x])
set_option maxRecDepth 20000 in
/-- the result's cells are read at the end -/
theorem close_op {W : World} {R : Nat} {a : Array Value} {t : TypeId} (h : Blk R a t W) (ha : a.size = 14) {tmps : Array Value} {Qp : Ending → World → Prop} {v0 v1 v2 v3 v4 v5 v6 v7 v8 v9 v10 v11 v12 v13 : Value}
  (x : Int) (h2 : (tmps[2]?).getD undef = .pointer (some ⟨R,0,none⟩)) (h3 : (tmps[3]?).getD undef = .int .i64 x)
  (hQ : ∀ W8 : World,(∀ B a,B ≤ R → Below B a W → Below B a W8) → (∀ g,g ≠ R → W8.heap[g]? = W.heap[g]?) → Qp (.returned (.tuple #[.agg #[v0,v1,v2,v3,v4,v5,v6,v7,v8,v9,v10,v11,v12,v13],.int .i64 x])) W8) :
  bodyPost Tryz.prog Tryz.f42 Qp .ret { tmps := tmps,defers := [] } (put14 W R v0 v1 v2 v3 v4 v5 v6 v7 v8 v9 v10 v11 v12 v13) := by
 have h8 := put14_blk h ha v0 v1 v2 v3 v4 v5 v6 v7 v8 v9 v10 v11 v12 v13
 have hQ' := hQ _ (fun B a hB hb => put14_below hb hB v0 v1 v2 v3 v4 v5 v6 v7 v8 v9 v10 v11 v12 v13) (fun g hg => put14_other W hg v0 v1 v2 v3 v4 v5 v6 v7 v8 v9 v10 v11 v12 v13)
 clear hQ h
 generalize put14 W R v0 v1 v2 v3 v4 v5 v6 v7 v8 v9 v10 v11 v12 v13 = W8 at h8 hQ' ⊢
 have e0 : W8.cell? ⟨R,0,none⟩ = some v0 := h8.cell rfl
 have e1 : W8.cell? ⟨R,1,none⟩ = some v1 := h8.cell rfl
 have e2 : W8.cell? ⟨R,2,none⟩ = some v2 := h8.cell rfl
 have e3 : W8.cell? ⟨R,3,none⟩ = some v3 := h8.cell rfl
 have e4 : W8.cell? ⟨R,4,none⟩ = some v4 := h8.cell rfl
 have e5 : W8.cell? ⟨R,5,none⟩ = some v5 := h8.cell rfl
 have e6 : W8.cell? ⟨R,6,none⟩ = some v6 := h8.cell rfl
 have e7 : W8.cell? ⟨R,7,none⟩ = some v7 := h8.cell rfl
 have e8 : W8.cell? ⟨R,8,none⟩ = some v8 := h8.cell rfl
 have e9 : W8.cell? ⟨R,9,none⟩ = some v9 := h8.cell rfl
 have e10 : W8.cell? ⟨R,10,none⟩ = some v10 := h8.cell rfl
 have e11 : W8.cell? ⟨R,11,none⟩ = some v11 := h8.cell rfl
 have e12 : W8.cell? ⟨R,12,none⟩ = some v12 := h8.cell rfl
 have e13 : W8.cell? ⟨R,13,none⟩ = some v13 := h8.cell rfl
 clear h8
 exact bodyPost_ret (v := .tuple #[.agg #[v0,v1,v2,v3,v4,v5,v6,v7,v8,v9,v10,v11,v12,v13],.int .i64 x]) (by simp [results,Tryz.results42,go_sem, *]) rfl hQ'
theorem step_field (R B n cc : Nat) (o : Opp) (A : Option Addr) (l : List (List UInt8)) (w : World) {x : UInt8} {z : Int} (hz : Hid ((x.toNat : Int) = z)) (hx : x = 72 ∨ x = 83 ∨ x = 66 ∨ x = 70 ∨ x = 67 ∨ isNum x) (h1 : x ≠ 70 → x ≠ 67 → 0 < n) (hE : Env w) (hT : Tabs w) {dv cv fv bv : Value} {kvs : List Value} (hd : SlV dv) (hcv : SlV cv) (hf : SlV fv) (hbv : SlV bv) (hB : Blk R (opC o dv cv fv bv) 108 w) (hO : OpO B o dv cv fv bv kvs w) (hBw : B ≤ w.heap.size) (HN : Hid (l.length = n)) (hn : n ≤ 2000000) (hc : n ≤ cc) (hs : Shows strc w w.heap.size A l) (hw : ∀ x ∈ l,x.length ≤ 2000000) :
  Calls Tryz.prog 80 #[.pointer (some ⟨R,0,none⟩),.int .i32 z,.slice A n cc] w fun e w' => FieldR R B o x l w e w' := by
 rw [← hz.out]
 rcases hx with rfl | rfl | rfl | rfl | rfl | hx
 ·exact field_H R B n cc o A l w hE (h1 (by decide) (by decide)) hd hcv hf hbv hB hO hBw HN hn hc hs hw
 ·exact field_S R B n cc o A l w hE (h1 (by decide) (by decide)) hd hcv hf hbv hB hO hBw HN hn hc hs hw
 ·exact field_B R B n cc o A l w hE (h1 (by decide) (by decide)) hd hcv hf hbv hB hO hBw HN hn hc hs hw
 ·exact field_F R B n cc o A l w hE hd hcv hf hbv hB hO hBw HN hn hc hs hw
 ·exact field_C R B n cc o A l w hE hT hd hcv hf hbv hB hO hBw HN hn hc hs hw
 ·exact field_N R B n cc o A l w hE x hx (h1 (by rcases hx with rfl | rfl | rfl | rfl | rfl | rfl | rfl <;> decide) (by rcases hx with rfl | rfl | rfl | rfl | rfl | rfl | rfl <;> decide)) hd hcv hf hbv hB hO hBw HN hn hc hs hw
set_option maxRecDepth 20000 in
set_option maxHeartbeats 3200000 in
theorem step_any (a : List UInt8) (ws : List (List UInt8)) (A : Option Addr) (c : Nat) (w : World) (hE : Env w) (hT : Tabs w) (hl : (a :: ws).length ≤ 2000000) (hc : (a :: ws).length ≤ c) (hs : Shows strc w w.heap.size A (a :: ws)) (hw : ∀ x ∈ a :: ws,x.length ≤ 2000000) :
  Calls Tryz.prog 42 #[.slice A (a :: ws).length c] w fun e w' => StepR (stepS (a :: ws)) w e w' ∧ Below w.heap.size w w' := by
 obtain ⟨N,hN⟩ : ∃ N,(a :: ws).length = N := ⟨_,rfl⟩
 rw [hN] at hl hc ⊢
 have HN := Lib.hid hN
 have i0 : (0 : Int) < (N : Int) := by have := hN;simp at this;omega
 obtain ⟨K,hK⟩ : ∃ K,named stepNames a = K := ⟨_,rfl⟩
 have HK := Lib.hid hK
 obtain ⟨A1,c1,hcut,hc1,hs1⟩ := cut_from hs hN hc 1 (by omega)
 have hcut' := fun W => hcut W 1 rfl
 have HN1 : Hid (ws.length = N - 1) := Lib.hid (by simp at hN;omega)
 have hs1' : Shows strc w w.heap.size A1 ws := by simpa using hs1
 obtain ⟨bb,o,rfl,hbb,hcell⟩ := hs (by simp)
 have c0 := hcell 0 a rfl
 rw [Nat.add_zero] at c0
 unfold strc at c0
 have hbw : bb < w.heap.size := hbb
 clear hN hK hcut hs1
 go_enter Tryz.func42,Tryz.ntmps42
 go_upto_region 1 with fail
 have hbl0 := one w (.cells (opC opp0 nl nl nl nl) 108)
 have hB0 : Blk w.heap.size (opC opp0 nl nl nl nl) 108 (w.alloc (.cells (opC opp0 nl nl nl nl) 108)) := (blk_new w (opC opp0 nl nl nl nl) 108)
 change Code.wp _ _ _ _ (w.alloc (.cells (opC opp0 nl nl nl nl) 108))
 generalize (w.alloc (.cells (opC opp0 nl nl nl nl) 108)) = W0 at hbl0 hB0 ⊢
 have hbn : bb ≠ w.heap.size := Nat.ne_of_lt hbw
 obtain ⟨R,hR⟩ : ∃ R,w.heap.size = R := ⟨_,rfl⟩
 have hRw : w.heap.size ≤ R := Nat.le_of_eq hR
 have hbw2 : bb < w.heap.size := hbw
 have i00 : 0 < N := by omega
 rw [hR] at hB0 hbn ⊢
 have hd0 : Below W0.heap.size W0 W0.drew := (Below.refl _ _).drew
 have hbl := hbl0.drew
 have hB2 := hB0.on hd0
 have hT2 := hT.on hbl
 have hE2 := hE.on hbl
 have c02 := (hbl.cell (p := ⟨bb,o,none⟩) hbw).trans c0
 have c00 := (hbl0.cell (p := ⟨bb,o,none⟩) hbw).trans c0
 clear c0 hbb hcell hs hd0
 go_cut [4] from 9 to 14 (fun p wx => ∃ P : Nat,p = .pointer (some ⟨P,0,none⟩) ∧ Hid (Blk P (opC { opp0 with kind := (K : Int) } nl nl nl nl) 108 wx ∧ Blk R (opC opp0 nl nl nl nl) 108 wx ∧ R ≠ P ∧ w.heap.size ≤ P ∧ Below w.heap.size w wx))
 case first =>
  have hda : Below W0.heap.size W0 (W0.alloc (.cells #[.int .i64 0,.int .i64 0,.int .i64 0,.int .i64 0,.int .i64 0,.int .i64 0,.slice none 0 0,.int .i64 0,.int .i64 0,.int .i64 0,.int .i64 0,.slice none 0 0,.slice none 0 0,.slice none 0 0] 108)).drew := (one W0 (.cells #[.int .i64 0,.int .i64 0,.int .i64 0,.int .i64 0,.int .i64 0,.int .i64 0,.slice none 0 0,.int .i64 0,.int .i64 0,.int .i64 0,.int .i64 0,.slice none 0 0,.slice none 0 0,.slice none 0 0] 108)).drew
  have hTa := hT.on (hbl0.trans (hda.mono hbl0.size))
  have cca := keepc hda c00
  have hBa := hB0.on hda
  have hPa : Blk W0.heap.size (opC opp0 nl nl nl nl) 108 (W0.alloc (.cells #[.int .i64 0,.int .i64 0,.int .i64 0,.int .i64 0,.int .i64 0,.int .i64 0,.slice none 0 0,.int .i64 0,.int .i64 0,.int .i64 0,.int .i64 0,.slice none 0 0,.slice none 0 0,.slice none 0 0] 108)).drew := blk_new W0 (opC opp0 nl nl nl nl) 108
  have hbla := hbl0.trans (hda.mono hbl0.size)
  have hw0 : w.heap.size ≤ W0.heap.size := hbl0.size
  have hR0 := hB0.lt
  clear hda
  go_region_law (first
   | (go_simp;go_at_call 78;with_reducible refine (named_step HK W0.drew hT2 rfl).mono ?_;rintro e w1 ⟨rfl,hb1⟩)
   | (go_simp;go_at_call 78;with_reducible refine (named_step HK (W0.alloc (.cells #[.int .i64 0,.int .i64 0,.int .i64 0,.int .i64 0,.int .i64 0,.int .i64 0,.slice none 0 0,.int .i64 0,.int .i64 0,.int .i64 0,.int .i64 0,.slice none 0 0,.slice none 0 0,.slice none 0 0] 108)).drew hTa rfl).mono ?_;rintro e w1 ⟨rfl,hb1⟩;have hP1 := hPa.on hb1;obtain ⟨e0,e1,e2,e3,e4,e5,e6,e7,e8,e9,e10,e11,e12,e13,fr⟩ := opC_cells hP1;simp only [opp0,nl] at e0 e1 e2 e3 e4 e5 e6 e7 e8 e9 e10 e11 e12 e13))
  ·go_wp2_with fail
   go_meet
   exact ⟨_,rfl,Lib.hid ⟨blk_new w1 (opC { opp0 with kind := (K : Int) } nl nl nl nl) 108,(hB2.on hb1).on (one w1 _),Nat.ne_of_lt (hB2.on hb1).lt,Nat.le_trans hbl.size hb1.size,(hbl.trans (hb1.mono hbl.size)).alloc (Nat.le_trans hbl.size hb1.size) _⟩⟩
  all_goals
   go_wp2_with fail
   go_meet
   exact ⟨W0.heap.size,rfl,Lib.hid ⟨put14_blk hP1 rfl _ _ _ _ _ _ _ _ _ _ _ _ _ _,(put14_other w1 (Nat.ne_of_lt hR0) _ _ _ _ _ _ _ _ _ _ _ _ _ _).trans (hBa.on hb1),Nat.ne_of_lt hR0,hw0,put14_below (hbla.trans (hb1.mono hbla.size)) hw0 _ _ _ _ _ _ _ _ _ _ _ _ _ _⟩⟩
 obtain ⟨P,rfl,HX⟩ := hcut
 clear hR
 obtain ⟨hPA,hBA,hRP,hwP,hblA⟩ := HX.out
 have hTA := hT.on hblA
 have hEA := hE.on hblA
 obtain ⟨e0,e1,e2,e3,e4,e5,e6,e7,e8,e9,e10,e11,e12,e13,fr⟩ := opC_cells hPA
 obtain ⟨r0,r1,r2,r3,r4,r5,r6,r7,r8,r9,r10,r11,r12,r13,fr0⟩ := opC_cells hBA
 simp only [opp0,nl] at e0 e1 e2 e3 e4 e5 e6 e7 e8 e9 e10 e11 e12 e13 r0 r1 r2 r3 r4 r5 r6 r7 r8 r9 r10 r11 r12 r13
 clear HX c00 c02 hbl0 hB0 hbl hB2 hT2 hE2
 by_cases hK0 : K = 0
 ·have HC : Hid (stepS (a :: ws) = .error 222) := Lib.hid (by rw [stepS_cons,HK.out,if_pos hK0])
  subst hK0
  go_wp2
  refine close_op hBA rfl 222 rfl rfl fun W8 hb8 ho8 => ⟨⟨opp0,nl,nl,nl,nl,sl_slice _ _ _,sl_slice _ _ _,sl_slice _ _ _,sl_slice _ _ _,?_⟩,hb8 _ _ hRw hblA⟩
  rw [HC.out];exact rfl
 ·have hK14 : K ≤ 14 := by have := named_le stepNames a;rw [HK.out] at this;exact this
  obtain ⟨k0,rfl⟩ : ∃ k0,K = k0 + 1 := ⟨K - 1,by omega⟩
  obtain ⟨nm,hnm⟩ : ∃ x,stepNames[k0]? = some x := ⟨_,List.getElem?_eq_getElem (by show k0 < 14;omega)⟩
  have t1 := (hTA.st k0 nm hnm).2
  obtain ⟨f,hf⟩ : ∃ f,stepForm (k0 + 1) = f := ⟨_,rfl⟩
  have hM3 := stepForm_len (k0 + 1) hK14
  obtain ⟨fc,hfc⟩ := stepForm_last (k0 + 1) (by omega) hK14
  have hneed := want_need (k0 + 1) (by omega) hK14 (N - 1)
  rw [hf] at t1 hM3 hfc hneed
  obtain ⟨M,hM⟩ : ∃ M,f.length = M := ⟨_,rfl⟩
  rw [hM] at hM3
  obtain ⟨tb,htb⟩ : ∃ s : ByteArray,s = ⟨f.toArray⟩ := ⟨_,rfl⟩
  have hsz : tb.size = M := by rw [htb];exact hM
  have hwant := fun W => wanted_any f fc hfc (by omega) (N - 1) (by omega) W
  rw [← htb] at t1 hwant
  have k5 : (k0 : Int) < 14 := by omega
  have k50 : k0 < 14 := by omega
  have kz : ((k0 : Int) + 1 == 0) = false := by rw [beq_eq_false_iff_ne];omega
  have HF := Lib.hid hf
  have HM := Lib.hid hM
  have HTB := Lib.hid htb
  have HSZ := Lib.hid hsz
  have HND := Lib.hid hneed
  have hRg : R ≠ 1 := by have := hT.ls;omega
  have hPg : P ≠ 1 := by have := hT.ls;omega
  have j1 : (1 : Int) ≤ (N : Int) := by omega
  clear hnm hf hM htb hneed hfc
  go_wp2_with fail
  refine (hwant _).mono ?_
  rintro e w3 ⟨rfl,rfl⟩
  cases hwb : want f (N - 1) with
  | false =>
   have HC : Hid (stepS (a :: ws) = .error 226) := Lib.hid (by rw [stepS_cons,HK.out,if_neg (by omega),HF.out,HN1.out,if_pos hwb])
   clear hwb hwant hK0
   go_wp2
   refine close_op hBA rfl 226 rfl rfl fun W8 hb8 ho8 => ⟨⟨{ opp0 with kind := (k0 : Int) + 1 },nl,nl,nl,nl,sl_slice _ _ _,sl_slice _ _ _,sl_slice _ _ _,sl_slice _ _ _,?_⟩,hb8 _ _ hRw hblA⟩
   rw [HC.out];exact rfl
  | true =>
   have HC : Hid (stepS (a :: ws) = flds { opp0 with kind := ((k0 + 1 : Nat) : Int) } f ws) := Lib.hid (by rw [stepS_cons,HK.out,if_neg (by omega),HF.out,HN1.out,if_neg (by rw [hwb];simp)])
   have hnd := HND.out hwb
   have HND2 := Lib.hid hnd
   clear hwb hwant hnd HND
   have hPI : Blk P (opC { opp0 with kind := ((k0 + 1 : Nat) : Int) } nl nl nl nl) 108 (w3.alloc (.stringIter tb 0)) := hPA.on (one w3 _)
   have hBI : Blk R (opC opp0 nl nl nl nl) 108 (w3.alloc (.stringIter tb 0)) := hBA.on (one w3 _)
   have hblI := hblA.alloc hblA.size (.stringIter tb 0)
   have hII := World.iter_heap w3 tb 0
   have hPl := hPA.lt
   have hRl := hBA.lt
   have hwD : w.heap.size ≤ w3.heap.size := hblA.size
   go_wp2
   clear e0 e1 e2 e3 e4 e5 e6 e7 e8 e9 e10 e11 e12 e13 fr r0 r1 r2 r3 r4 r5 r6 r7 r8 r9 r10 r11 r12 r13 fr0 t1 hsz hPA hBA hTA hEA hblA hK0 hcut'
   obtain ⟨D,hD⟩ : ∃ D,w3.heap.size = D := ⟨_,rfl⟩
   rw [hD] at hPl hRl hwD hII ⊢
   clear hD
   go_loopw [] (fun wr => ∃ (pos : Nat) (o : Opp) (dv cv fv bv : Value) (kvs : List Value),pos ≤ M ∧ Hid (stepS (a :: ws) = flds o (f.drop pos) (ws.drop pos)) ∧ ItAt D tb pos wr ∧ Blk P (opC o dv cv fv bv) 108 wr ∧ Hid (SlV dv ∧ SlV cv ∧ SlV fv ∧ SlV bv) ∧ Hid (OpO w.heap.size o dv cv fv bv kvs wr) ∧ Blk R (opC opp0 nl nl nl nl) 108 wr ∧ Below w.heap.size w wr) (fun wr => tb.size - wr.iterPos D)
   case atStart => exact ⟨0,{ opp0 with kind := ((k0 + 1 : Nat) : Int) },nl,nl,nl,nl,[],Nat.zero_le _,HC,hII,hPI,Lib.hid ⟨sl_slice _ _ _,sl_slice _ _ _,sl_slice _ _ _,sl_slice _ _ _⟩,Lib.hid ⟨World.ownsRow_nil _ _ _ _,CRow.nil _ _,World.ownsRow_nil _ _ _ _,World.ownsRow_nil _ _ _ _,fun i u g hu => by simp at hu⟩,hBI,hblI⟩
   case round =>
    obtain ⟨pos,op,dv,cv,fv,bv,kvs,hpos,HG,hI,hPB,HSL,HO,hRB,hbl⟩ := hrel
    have hI0 : wr.heap[D]? = some (.stringIter tb pos) := hI
    obtain ⟨hs_d,hs_c,hs_f,hs_b⟩ := HSL.out
    clear hII hPI hBI hblI HC
    by_cases hlt : pos < M
    ·obtain ⟨x,hx⟩ : ∃ x,f[pos]? = some x := ⟨_,List.getElem?_eq_getElem (by rw [HM.out];exact hlt)⟩
     have hlt2 : pos < tb.size := by rw [HSZ.out];exact hlt
     have htx : tb[pos]'hlt2 = x := str_at HTB.out hx hlt2
     obtain ⟨hxx,hpn,hpl⟩ := HND2.out pos x hx
     have hst := flds_at op (ws := ws) hx
     rw [← HG.out] at hst
     have HST := Lib.hid hst
     have ha : (tb[pos]'hlt2).toNat < 128 := by rw [htx];rcases hxx with rfl | rfl | rfl | rfl | rfl | hxx <;> first | decide | (rcases hxx with rfl | rfl | rfl | rfl | rfl | rfl | rfl <;> decide)
     have hnx : ∀ ty,(Instr.next (.pointer (some ⟨D,0,none⟩)) true ty).run Tryz.prog wr = .ok (.tuple #[.bool true,.int .i64 pos,.int .i32 (tb[pos]'hlt2).toNat]) (wr.iterAt D tb (pos + 1)) := fun ty => Lib.run_next_ascii_at wr _ tb pos ty hI0 hlt2 ha
     rw [htx] at hnx
     obtain ⟨z,hz⟩ : ∃ z : Int,(x.toNat : Int) = z := ⟨_,rfl⟩
     rw [hz] at hnx
     have HZ := Lib.hid hz
     have hI2 := hI.next (pos + 1)
     have hP2 : Blk P (opC op dv cv fv bv) 108 (wr.iterAt D tb (pos + 1)) := (Lib.iterAt_other wr D P tb (pos + 1) (by omega)).trans hPB
     have hR2 : Blk R (opC opp0 nl nl nl nl) 108 (wr.iterAt D tb (pos + 1)) := (Lib.iterAt_other wr D R tb (pos + 1) (by omega)).trans hRB
     have hO2 := HO.out.move (W' := wr.iterAt D tb (pos + 1)) (fun g cs e he hc => Lib.iterAt_other wr D g tb (pos + 1) (fun e2 => by subst e2;rw [hI0] at hc;injection hc with hc;cases hc))
     have hbl2 := Lib.below_iterAt hbl (k := D) hwD tb (pos + 1)
     have hm : tb.size - (pos + 1) < tb.size - wr.iterPos D := by rw [hI.pos];omega
     have HMS := Lib.hid hm
     generalize wr.iterAt D tb (pos + 1) = w2 at hnx hI2 hP2 hR2 hO2 hbl2
     have hE2 := hE.on hbl2
     have hT2 := hT.on hbl2
     obtain ⟨A4,c4,hcutp,hc4,hs4⟩ := cut_from hs1' HN1.out hc1 pos hpn
     have hcutp' := fun W => hcutp W (pos : Int) rfl
     have hs5 : Shows strc w2 w2.heap.size A4 (ws.drop pos) := (hs4.below hbl2).more hbl2.size
     have HL5 : Hid ((ws.drop pos).length = N - 1 - pos) := Lib.hid (by rw [List.length_drop,HN1.out])
     have hw5 : ∀ y ∈ ws.drop pos,y.length ≤ 2000000 := fun y hy => hw y (List.mem_cons_of_mem _ (List.mem_of_mem_drop hy))
     have hpi : (pos : Int) ≤ ((N - 1 : Nat) : Int) := by omega
     have hpl2 : x ≠ 70 → x ≠ 67 → 0 < N - 1 - pos := fun a b => by have := hpl a b;omega
     have hcall := step_field P w.heap.size (N - 1 - pos) c4 op A4 (ws.drop pos) w2 HZ hxx hpl2 hE2 hT2 hs_d hs_c hs_f hs_b hP2 hO2 hbl2.size HL5 (by omega) hc4 hs5 hw5
     clear hx hst hm hI hI0 hPB HO hRB hbl htx ha hz hcutp hs4 hs5 hw5 hpl hpl2 hxx
     go_wp2_with fail
     refine hcall.mono ?_
     rintro e w4 ⟨o5,dv5,cv5,fv5,bv5,kvs5,q1,q2,q3,q4,hP5,hX5,hres⟩
     have hRne : R ≠ P := hRP
     have hR5 : Blk R (opC opp0 nl nl nl nl) 108 w4 := (hX5.blk R hR2.lt hRne).trans hR2
     have hI5 : ItAt D tb (pos + 1) w4 := (hX5.blk D (blk_lt hI2) (by omega)).trans hI2
     have hbl5 := hX5.bl _ _ hwP hbl2
     clear hcall hX5 hP2 hR2 hI2 hO2 hbl2 hE2 hT2
     cases hfl : fld op x (ws.drop pos) with
     | error y =>
      rw [hfl] at hres
      obtain rfl := hres
      have hy0 : (y != 0) = true := by rw [bne_iff_ne];exact fld_err hfl
      have HE : Hid (stepS (a :: ws) = .error y) := Lib.hid (by rw [HST.out,hfl])
      obtain ⟨A6,n6,c6,rfl⟩ := q1
      obtain ⟨A7,n7,c7,rfl⟩ := q2
      obtain ⟨A8,n8,c8,rfl⟩ := q3
      obtain ⟨A9,n9,c9,rfl⟩ := q4
      obtain ⟨e0,e1,e2,e3,e4,e5,e6,e7,e8,e9,e10,e11,e12,e13,fr⟩ := opC_cells hP5
      obtain ⟨r0,r1,r2,r3,r4,r5,r6,r7,r8,r9,r10,r11,r12,r13,fr0⟩ := opC_cells hR5
      simp only [opp0,nl] at r0 r1 r2 r3 r4 r5 r6 r7 r8 r9 r10 r11 r12 r13
      clear hfl HST hI5 hP5
      go_wp2
      refine close_op hR5 rfl y rfl rfl fun W8 hb8 ho8 => ⟨⟨o5,.slice A6 n6 c6,.slice A7 n7 c7,.slice A8 n8 c8,.slice A9 n9 c9,sl_slice _ _ _,sl_slice _ _ _,sl_slice _ _ _,sl_slice _ _ _,?_⟩,hb8 _ _ hRw hbl5⟩
      rw [HE.out];exact rfl
     | ok o6 =>
      rw [hfl] at hres
      obtain ⟨rfl,rfl,hO5⟩ := hres
      have HG2 : Hid (stepS (a :: ws) = flds o6 (f.drop (pos + 1)) (ws.drop (pos + 1))) := Lib.hid (by rw [HST.out,hfl])
      clear hfl HST
      go_wp2
      go_roundw
      case rel => exact ⟨pos + 1,o6,dv5,cv5,fv5,bv5,kvs5,hlt,HG2,hI5,hP5,Lib.hid ⟨q1,q2,q3,q4⟩,Lib.hid hO5,hR5,hbl5⟩
      case measure => rw [hI5.pos];exact HMS.out
    ·have hE3 : Hid (stepS (a :: ws) = .ok op) := Lib.hid (by
      rw [HG.out,List.drop_of_length_le (by rw [HM.out];omega),flds])
     have hnx : ∀ ty,(Instr.next (.pointer (some ⟨D,0,none⟩)) true ty).run Tryz.prog wr = .ok (.tuple #[.bool false]) wr := fun ty => Lib.run_next_end_at wr _ tb pos ty hI0 (by rw [HSZ.out];omega)
     have hO := HO.out
     obtain ⟨A6,n6,c6,rfl⟩ := hs_d
     obtain ⟨A7,n7,c7,rfl⟩ := hs_c
     obtain ⟨A8,n8,c8,rfl⟩ := hs_f
     obtain ⟨A9,n9,c9,rfl⟩ := hs_b
     obtain ⟨e0,e1,e2,e3,e4,e5,e6,e7,e8,e9,e10,e11,e12,e13,fr⟩ := opC_cells hPB
     obtain ⟨r0,r1,r2,r3,r4,r5,r6,r7,r8,r9,r10,r11,r12,r13,fr0⟩ := opC_cells hRB
     simp only [opp0,nl] at r0 r1 r2 r3 r4 r5 r6 r7 r8 r9 r10 r11 r12 r13
     clear hI hI0 HG
     go_wp2
     refine close_op hRB rfl 0 rfl rfl fun W8 hb8 ho8 => ⟨⟨op,.slice A6 n6 c6,.slice A7 n7 c7,.slice A8 n8 c8,.slice A9 n9 c9,sl_slice _ _ _,sl_slice _ _ _,sl_slice _ _ _,sl_slice _ _ _,?_⟩,hb8 _ _ hRw hbl⟩
     rw [hE3.out]
     exact ⟨rfl,rfl,kvs,hO.move fun g cs e he hc => ho8 g (fun e2 => by
      subst e2
      unfold Blk at hRB
      rw [hRB] at hc
      injection hc with hc
      injection hc with _ hc
      exact he hc.symm)⟩
end Go.Proofs.YtpkmekdpmkfcdaaGreatDoor.Sr
namespace Go.Proofs.YtpkmekdpmkfcdaaGreatDoor.Sr
set_option linter.unusedVariables false
set_option linter.unusedSimpArgs false
open Go.RowKit Go.Shelf Go.Proofs.YtpkmekdpmkfcdaaGreatDoor.Wd Go.Proofs.YtpkmekdpmkfcdaaGreatDoor.Px Go.Proofs.YtpkmekdpmkfcdaaGreatDoor.By Go.Proofs.YtpkmekdpmkfcdaaGreatDoor.En Go.Proofs.YtpkmekdpmkfcdaaGreatDoor.Pl Go.Proofs.YtpkmekdpmkfcdaaGreatDoor.Pf Go.Proofs.YtpkmekdpmkfcdaaGreatDoor.Sc
attribute [local go_sem] Oper.semAt_some
/-! ### what is handed out -/
def yes (w : List UInt8) : List UInt8 × Bool := (w,true)
def wseq (cur : List UInt8) : List UInt8 → List (List UInt8 × Bool)
 | [] => (flw cur).map yes
 | c :: r => if isBlk c = true then (flw cur).map yes ++ wseq [] r else if okC c = true then wseq (cur ++ [c]) r else [([],false)]
theorem wseq_all : ∀ (t cur : List UInt8),35 ∉ t → (∀ x ∈ wseq cur t,x.2 = true) → wds cur t = some ((wseq cur t).map (·.1))
 | [],cur,_,_ => by
  rw [wds,wseq,List.map_map]
  congr 1
  exact (List.map_id _).symm
 | c :: r,cur,h35,h => by
  have hr : 35 ∉ r := fun hc => h35 (List.mem_cons_of_mem _ hc)
  have hc : c ≠ 35 := fun e => h35 (by rw [e];simp)
  rw [wseq] at h ⊢
  rw [wds,if_neg hc]
  split at h
  ·rename_i hb
   rw [if_pos hb,if_pos hb,wseq_all r [] hr (fun x hx => h x (List.mem_append_right _ hx)),List.map_append,List.map_map]
   simp only [Option.map_some]
   congr 2
   exact (List.map_id _).symm
  ·rename_i hb
   rw [if_neg hb,if_neg hb]
   split at h
   ·rename_i hk
    rw [if_pos hk,if_pos hk,wseq_all r _ hr h]
   ·exact absurd (h ([],false) (by simp)) (by simp)
theorem wseq_bad : ∀ (t cur : List UInt8),35 ∉ t → (∃ x ∈ wseq cur t,x.2 = false) → wds cur t = none
 | [],cur,_,h => by
  obtain ⟨x,hx,hx2⟩ := h
  rw [wseq] at hx
  obtain ⟨y,-,rfl⟩ := List.mem_map.1 hx
  cases hx2
 | c :: r,cur,h35,h => by
  have hr : 35 ∉ r := fun hc => h35 (List.mem_cons_of_mem _ hc)
  have hc : c ≠ 35 := fun e => h35 (by rw [e];simp)
  rw [wseq] at h
  rw [wds,if_neg hc]
  split at h
  ·rename_i hb
   rw [if_pos hb]
   obtain ⟨x,hx,hx2⟩ := h
   rw [List.mem_append] at hx
   rcases hx with hx | hx
   ·obtain ⟨y,-,rfl⟩ := List.mem_map.1 hx;cases hx2
   ·rw [wseq_bad r [] hr ⟨x,hx,hx2⟩];rfl
  ·rename_i hb
   rw [if_neg hb]
   split at h
   ·rename_i hk
    rw [if_pos hk,wseq_bad r _ hr h]
   ·rename_i hk
    rw [if_neg hk]
theorem wseq_len : ∀ (t cur : List UInt8),(wseq cur t).length ≤ t.length + 1
 | [],cur => by rw [wseq,List.length_map];unfold flw;split <;> simp
 | c :: r,cur => by
  rw [wseq]
  split
  ·rw [List.length_append,List.length_map,List.length_cons]
   have := wseq_len r []
   have h2 : (flw cur).length ≤ 1 := by unfold flw;split <;> simp
   omega
  ·split
   ·have := wseq_len r (cur ++ [c]);rw [List.length_cons];omega
   ·simp
/-- the iterator's loop: pos bytes are over, a word begun at p -/
def WAt (t : List UInt8) (pos : Nat) (f : Int) (pre : List (List UInt8 × Bool)) : Prop :=
 (pos ≤ t.length ∧ ((f = -1 ∧ wseq [] t = pre ++ wseq [] (t.drop pos)) ∨ ∃ p : Nat,f = (p : Int) ∧ p < pos ∧ wseq [] t = pre ++ wseq ((t.take pos).drop p) (t.drop pos))) ∨ (t.length < pos ∧ wseq [] t = pre)
theorem WAt.start (t : List UInt8) : WAt t 0 (-1) [] := .inl ⟨Nat.zero_le _,.inl ⟨rfl,by simp⟩⟩
/-- is the byte at pos a blank, or the end? -/
def BlkAt (t : List UInt8) (pos : Nat) : Prop := pos = t.length ∨ ∃ c,t[pos]? = some c ∧ isBlk c = true
theorem wseq_blk {t : List UInt8} {pos : Nat} (h : BlkAt t pos) (cur : List UInt8) : wseq cur (t.drop pos) = (flw cur).map yes ++ if pos < t.length then wseq [] (t.drop (pos + 1)) else [] := by
 rcases h with rfl | ⟨c,hc,hb⟩
 ·rw [List.drop_of_length_le (Nat.le_refl _),wseq,if_neg (by omega),List.append_nil]
 ·obtain ⟨hp,rfl⟩ := List.getElem?_eq_some_iff.1 hc
  rw [List.drop_eq_getElem_cons hp,wseq,if_pos hb,if_pos hp]
theorem WAt.none_ {t : List UInt8} {pos : Nat} {pre : List (List UInt8 × Bool)} (h : WAt t pos (-1) pre) (hb : BlkAt t pos) (hp : pos ≤ t.length) : WAt t (pos + 1) (-1) pre := by
 rcases h with ⟨_,⟨-,h⟩ | ⟨p,e,-⟩⟩ | ⟨h,-⟩
 ·rw [wseq_blk hb] at h
  by_cases hl : pos < t.length
  ·rw [if_pos hl] at h
   exact .inl ⟨hl,.inl ⟨rfl,h⟩⟩
  ·rw [if_neg hl] at h
   exact .inr ⟨by omega,by simpa [flw] using h⟩
 ·omega
 ·omega
theorem WAt.word {t : List UInt8} {pos p : Nat} {pre : List (List UInt8 × Bool)} (h : WAt t pos (p : Int) pre) (hb : BlkAt t pos) (hp : pos ≤ t.length) : p < pos ∧ WAt t (pos + 1) (-1) (pre ++ [((t.take pos).drop p,true)]) := by
 rcases h with ⟨_,⟨e,-⟩ | ⟨q,e,hq,h⟩⟩ | ⟨h,-⟩
 ·omega
 ·obtain rfl : q = p := by omega
  have hne : (t.take pos).drop q ≠ [] := by
   intro e
   have := congrArg List.length e
   rw [List.length_drop,List.length_take] at this
   simp at this;omega
  rw [wseq_blk hb,flw_ne hne] at h
  refine ⟨hq,?_⟩
  by_cases hl : pos < t.length
  ·rw [if_pos hl] at h
   exact .inl ⟨hl,.inl ⟨rfl,by rw [h];simp [yes]⟩⟩
  ·rw [if_neg hl] at h
   exact .inr ⟨by omega,by simpa [yes] using h⟩
 ·omega
theorem WAt.bad {t : List UInt8} {pos : Nat} {f : Int} {pre : List (List UInt8 × Bool)} (h : WAt t pos f pre) {c : UInt8} (hc : t[pos]? = some c) (hb : isBlk c = false) (hk : okC c = false) : wseq [] t = pre ++ [([],false)] := by
 obtain ⟨hp,rfl⟩ := List.getElem?_eq_some_iff.1 hc
 rcases h with ⟨_,⟨-,h⟩ | ⟨q,-,-,h⟩⟩ | ⟨h,-⟩
 ·rw [h,List.drop_eq_getElem_cons hp,wseq,if_neg (by rw [hb];simp),if_neg (by rw [hk];simp)]
 ·rw [h,List.drop_eq_getElem_cons hp,wseq,if_neg (by rw [hb];simp),if_neg (by rw [hk];simp)]
 ·omega
theorem WAt.first {t : List UInt8} {pos : Nat} {pre : List (List UInt8 × Bool)} (h : WAt t pos (-1) pre) {c : UInt8} (hc : t[pos]? = some c) (hk : okC c = true) : WAt t (pos + 1) (pos : Int) pre := by
 obtain ⟨hp,rfl⟩ := List.getElem?_eq_some_iff.1 hc
 rcases h with ⟨_,⟨-,h⟩ | ⟨q,e,-⟩⟩ | ⟨h,-⟩
 ·refine .inl ⟨hp,.inr ⟨pos,rfl,Nat.lt_succ_self _,?_⟩⟩
  rw [h,List.drop_eq_getElem_cons hp,wseq,if_neg (by rw [okC_blk hk];simp),if_pos hk]
  have : (t.take (pos + 1)).drop pos = [t[pos]] := by
   rw [List.take_succ_eq_append_getElem hp,List.drop_append_of_le_length (by rw [List.length_take];omega),List.drop_of_length_le (by rw [List.length_take];omega)];rfl
  rw [this];rfl
 ·omega
 ·omega
theorem WAt.more {t : List UInt8} {pos p : Nat} {pre : List (List UInt8 × Bool)} (h : WAt t pos (p : Int) pre) {c : UInt8} (hc : t[pos]? = some c) (hk : okC c = true) : WAt t (pos + 1) (p : Int) pre := by
 obtain ⟨hp,rfl⟩ := List.getElem?_eq_some_iff.1 hc
 rcases h with ⟨_,⟨e,-⟩ | ⟨q,e,hq,h⟩⟩ | ⟨h,-⟩
 ·omega
 ·obtain rfl : q = p := by omega
  refine .inl ⟨hp,.inr ⟨q,rfl,by omega,?_⟩⟩
  rw [h,List.drop_eq_getElem_cons hp,wseq,if_neg (by rw [okC_blk hk];simp),if_pos hk]
  have : (t.take (pos + 1)).drop q = (t.take pos).drop q ++ [t[pos]] := by
   rw [List.take_succ_eq_append_getElem hp,List.drop_append_of_le_length (by rw [List.length_take];omega)]
  rw [this]
 ·omega
theorem WAt.done {t : List UInt8} {pos : Nat} {f : Int} {pre : List (List UInt8 × Bool)} (h : WAt t pos f pre) (hp : t.length < pos) : wseq [] t = pre := by
 rcases h with ⟨h,-⟩ | ⟨-,h⟩
 ·omega
 ·exact h
theorem WAt.len {t : List UInt8} {pos : Nat} {f : Int} {pre : List (List UInt8 × Bool)} (h : WAt t pos f pre) : pre.length ≤ t.length + 1 := by
 have := wseq_len t []
 rcases h with ⟨_,⟨-,h⟩ | ⟨q,-,-,h⟩⟩ | ⟨-,h⟩ <;> (rw [h] at this;first | omega | (simp at this;omega))
theorem WAt.pre {t : List UInt8} {pos : Nat} {f : Int} {pre : List (List UInt8 × Bool)} (h : WAt t pos f pre) : pre <+: wseq [] t := by
 rcases h with ⟨_,⟨-,h⟩ | ⟨q,-,-,h⟩⟩ | ⟨-,h⟩
 ·exact ⟨_,h.symm⟩
 ·exact ⟨_,h.symm⟩
 ·rw [h];exact List.prefix_refl _
theorem ext_mid (t : List UInt8) (a k : Nat) : (⟨t.toArray⟩ : ByteArray).extract a k = ⟨((t.take k).drop a).toArray⟩ := by
 apply ByteArray.ext
 simp [List.extract,List.drop_take]
theorem str_at' {f : List UInt8} {pos : Nat} {x : UInt8} {tb : ByteArray} (h : tb = ⟨f.toArray⟩) (hx : f[pos]? = some x) (hlt : pos < tb.size) : tb[pos]'hlt = x := by
 subst h
 have := St.get_at hlt
 rw [show (⟨f.toArray⟩ : ByteArray).data.toList = f from rfl,hx] at this
 injection this with this
 exact this.symm
/-- the caller's rounds leave the iterators and the line's cell alone -/
def Kw (tB : Nat) (A B : World) : Prop := KeepsWalks A B ∧ B.heap[tB]? = A.heap[tB]?
def encW (x : List UInt8 × Bool) : Array Value := #[.string ⟨x.1.toArray⟩,.bool x.2]
theorem abides_alloc {β : Type} {B : Nat} {J : β → World → Prop} (h : AbidesFrom B J) {s : β} {W : World} (o : Obj) (hs : J s W) : J s (W.alloc o) := h s W _ none hs (World.grownBy_alloc W o none) (fun r e => by cases e)
theorem iter_grown (W : World) (D : Nat) (t : ByteArray) (p : Nat) : W.grownBy (W.iterAt D t p) (some D) := ⟨rfl,rfl,rfl,by rw [Lib.iterAt_size];exact Nat.le_refl _,fun k _ hk => Lib.iterAt_other W D k t p (fun e => hk (by rw [e]))⟩
theorem abides_iter {β : Type} {B : Nat} {J : β → World → Prop} (h : AbidesFrom B J) {s : β} {W : World} {D : Nat} (hD : B ≤ D) {t : ByteArray} {q : Nat} (hI : ItAt D t q W) (p : Nat) (hs : J s W) : J s (W.iterAt D t p) :=
 h s W _ (some D) hs (iter_grown W D t p) (fun r e => by injection e with e;subst e;exact ⟨hD,_,hI,rfl⟩)
set_option maxRecDepth 100000 in
set_option maxHeartbeats 4000000 in
theorem words_seq (n tB : Nat) (hn1 : 1 ≤ n) (t : List UInt8) (ht : t.length ≤ 2000000) (w : World) (htB : tB < w.heap.size) (g0 : w.cell? ⟨tB,0,none⟩ = some (.string ⟨t.toArray⟩)) :
  SeqStopsK Fence.wide n Tryz.prog 149 #[.pointer (some ⟨tB,0,none⟩)] encW (Kw tB) (fun xs => xs = wseq [] t) (fun pre => pre <+: wseq [] t) (t.length + 2) w := fun l J Jx W hW hJ hJx hY h0 => by
 have k0 := (hW.cell (p := ⟨tB,0,none⟩) htB).trans g0
 obtain ⟨s,hse⟩ : ∃ s : ByteArray,s = ⟨(t ++ [32]).toArray⟩ := ⟨_,rfl⟩
 have hss : s.size = t.length + 1 := by rw [hse];show (t ++ [32]).length = _;simp
 have hcat : (⟨t.toArray⟩ ++ ⟨#[32]⟩ : ByteArray) = s := by rw [hse];exact ByteArray.mk_append_mk _ _
 have hat : ∀ (pos : Nat) (h : pos < s.size),(pos < t.length → t[pos]? = some (s[pos]'h)) ∧ (pos = t.length → s[pos]'h = 32) := by
  intro pos h
  refine ⟨fun hl => ?_,fun hl => ?_⟩
  ·obtain ⟨c,hc⟩ : ∃ c,t[pos]? = some c := ⟨_,List.getElem?_eq_getElem hl⟩
   rw [str_at' hse (by rw [List.getElem?_append_left hl];exact hc) h];exact hc
  ·exact str_at' hse (by rw [hl];simp) h
 have HSS := Lib.hid hss
 have HAT := Lib.hid hat
 have htb : tB < W.heap.size := Nat.lt_of_lt_of_le htB hW.size
 have hts : (⟨t.toArray⟩ : ByteArray).size = t.length := rfl
 clear hss hat hse
 refine callsIn_of_wp Tryz.func149 rfl trivial ?_ rfl
 simp only [Tryz.ntmps149,List.size_toArray,List.length_cons,List.length_nil,Nat.reduceAdd,Nat.reduceSub,Array.replicate_succ,Array.replicate_zero,List.push_toArray,List.append_toArray,List.nil_append,List.cons_append]
 gi_wp2
 -- LOOP
 obtain ⟨D,hD⟩ : ∃ D,W.heap.size = D := ⟨_,rfl⟩
 have hI0 := World.iter_heap W s 0
 have hk00 : (W.alloc (.stringIter s 0)).cell? ⟨tB,0,none⟩ = some (.string ⟨t.toArray⟩) := (World.cell?_of_block (a := ⟨tB,0,none⟩) (heap_alloc_old W _ htb)).trans k0
 have hj0 := abides_alloc hJ (.stringIter s 0) h0
 rw [hD] at hI0 ⊢
 have hJ' : AbidesFrom D J := by rw [← hD];exact hJ
 have htD : tB < D := by rw [← hD];exact htb
 clear hJ h0 k0 hcat htb hD hts
 gi_loopw [3] (fun fv wr => ∃ (pos : Nat) (f : Int) (pre : List (List UInt8 × Bool)),pos ≤ t.length + 1 ∧ fv = .int .i64 f ∧ (f = -1 ∨ ∃ p : Nat,f = (p : Int) ∧ p ≤ pos) ∧ Hid (WAt t pos f pre) ∧ ItAt D s pos wr ∧ J pre wr ∧ wr.cell? ⟨tB,0,none⟩ = some (.string ⟨t.toArray⟩)) (fun _ wr => t.length + 1 - wr.iterPos D)
 case atStart => exact ⟨0,-1,[],Nat.zero_le _,rfl,.inl rfl,Lib.hid (WAt.start t),hI0,hj0,hk00⟩
 case round =>
  obtain ⟨pos,f,pre,hpos,rfl,hf,HA,hI,hj,k0⟩ := hrel
  have hII : wr.heap[D]? = some (.stringIter s pos) := hI
  clear hI0 hk00 hj0
  have hss := HSS.out
  by_cases hlt : pos < s.size
  ·have hpt : pos ≤ t.length := by omega
   obtain ⟨ha1,ha2⟩ := HAT.out pos hlt
   obtain ⟨c,hc⟩ : ∃ c,s[pos]'hlt = c := ⟨_,rfl⟩
   rw [hc] at ha1 ha2
   obtain ⟨x,hx⟩ : ∃ x : Int,(c.toNat : Int) = x := ⟨_,rfl⟩
   have hx255 := c.toNat_lt
   by_cases ha : c.toNat < 128
   ·have hnx : ∀ ty,(Instr.next (.pointer (some ⟨D,0,none⟩)) true ty).run Tryz.prog wr = .ok (.tuple #[.bool true,.int .i64 pos,.int .i32 (s[pos]'hlt).toNat]) (wr.iterAt D s (pos + 1)) := fun ty => Lib.run_next_ascii_at wr _ s pos ty hII hlt (by rw [hc];exact ha)
    rw [hc,hx] at hnx
    have hI2 := hI.next (pos + 1)
    have hj2 := abides_iter hJ' (Nat.le_refl D) hI (pos + 1) hj
    have hk2 := (World.cell?_of_block (a := ⟨tB,0,none⟩) (Lib.iterAt_other wr D tB s (pos + 1) (by omega))).trans k0
    have hm : t.length + 1 - (pos + 1) < t.length + 1 - wr.iterPos D := by rw [hI.pos];omega
    have HMS := Lib.hid hm
    generalize wr.iterAt D s (pos + 1) = w2 at hnx hI2 hj2 hk2
    clear hI hII hm
    by_cases hb : isBlk c = true
    ·have hbb : BlkAt t pos := by
      by_cases he : pos = t.length
      ·exact .inl he
      ·exact .inr ⟨c,ha1 (by omega),hb⟩
     have HB := Lib.hid hbb
     have hxx : x = 32 ∨ x = 9 := by
      rw [← hx]
      unfold isBlk at hb
      rw [Bool.or_eq_true,decide_eq_true_eq,decide_eq_true_eq] at hb
      rcases hb with h | h <;> rw [h]
      ·left;rfl
      ·right;rfl
     clear ha1 ha2 hc hx hx255 hbb hss ha
     rcases hxx with rfl | rfl
     ·rcases hf with rfl | ⟨p,rfl,hpp⟩
      ·have HN := Lib.hid (HA.out.none_ HB.out hpt)
       clear hj k0
       gi_wp2
       refine ⟨⟨pos + 1,-1,pre,by omega,rfl,.inl rfl,HN,hI2,hj2,hk2⟩,?_⟩
       rw [hI2.pos];exact HMS.out
      ·obtain ⟨hpw,hwd⟩ := HA.out.word HB.out hpt
       have HN := Lib.hid hwd
       obtain ⟨fn,tmps,assign,body,hy,hR⟩ := hY pre ((t.take pos).drop p,true) w2 hj2 (by have := HA.out.len;omega)
       simp only [encW] at hy
       rw [← ext_mid] at hy
       have hpi : (p : Int) ≤ (pos : Int) := by omega
       have hpi2 : (pos : Int) ≤ (t.length : Int) := by omega
       have hp0 : (0 : Int) ≤ (p : Int) := by omega
       clear hj k0 hwd
       gi_wp2
       refine hR.mono ?_
       rintro e W3 (⟨rfl,hJ3,hk3⟩ | ⟨rfl,hJx3⟩)
       ·have hI3 : ItAt D s (pos + 1) W3 := hk3.1.same D _ hI2 rfl
        have hk4 : W3.cell? ⟨tB,0,none⟩ = some (.string ⟨t.toArray⟩) := (World.cell?_of_block (a := ⟨tB,0,none⟩) hk3.2).trans hk2
        clear hk2 hk3 hI2 hj2 hR
        gi_wp2
        refine ⟨⟨pos + 1,-1,_,by omega,rfl,.inl rfl,HN,hI3,hJ3,hk4⟩,?_⟩
        rw [hI3.pos];exact HMS.out
       ·have hpre := HN.out.pre
        gi_wp2
        refine bodyPost_ret (results_none rfl _ _ _) rfl ?_
        exact ⟨⟨_,rfl⟩,.inr ⟨_,hpre,hJx3⟩⟩
     ·rcases hf with rfl | ⟨p,rfl,hpp⟩
      ·have HN := Lib.hid (HA.out.none_ HB.out hpt)
       clear hj k0
       gi_wp2
       refine ⟨⟨pos + 1,-1,pre,by omega,rfl,.inl rfl,HN,hI2,hj2,hk2⟩,?_⟩
       rw [hI2.pos];exact HMS.out
      ·obtain ⟨hpw,hwd⟩ := HA.out.word HB.out hpt
       have HN := Lib.hid hwd
       obtain ⟨fn,tmps,assign,body,hy,hR⟩ := hY pre ((t.take pos).drop p,true) w2 hj2 (by have := HA.out.len;omega)
       simp only [encW] at hy
       rw [← ext_mid] at hy
       have hpi : (p : Int) ≤ (pos : Int) := by omega
       have hpi2 : (pos : Int) ≤ (t.length : Int) := by omega
       have hp0 : (0 : Int) ≤ (p : Int) := by omega
       clear hj k0 hwd
       gi_wp2
       refine hR.mono ?_
       rintro e W3 (⟨rfl,hJ3,hk3⟩ | ⟨rfl,hJx3⟩)
       ·have hI3 : ItAt D s (pos + 1) W3 := hk3.1.same D _ hI2 rfl
        have hk4 : W3.cell? ⟨tB,0,none⟩ = some (.string ⟨t.toArray⟩) := (World.cell?_of_block (a := ⟨tB,0,none⟩) hk3.2).trans hk2
        clear hk2 hk3 hI2 hj2 hR
        gi_wp2
        refine ⟨⟨pos + 1,-1,_,by omega,rfl,.inl rfl,HN,hI3,hJ3,hk4⟩,?_⟩
        rw [hI3.pos];exact HMS.out
       ·have hpre := HN.out.pre
        gi_wp2
        refine bodyPost_ret (results_none rfl _ _ _) rfl ?_
        exact ⟨⟨_,rfl⟩,.inr ⟨_,hpre,hJx3⟩⟩
    ·have hnb : isBlk c = false := by simpa using hb
     have hlt3 : pos < t.length := by
      rcases Nat.lt_or_ge pos t.length with h | h
      ·exact h
      ·exact absurd (by rw [ha2 (by omega)];rfl) hb
     have HC := Lib.hid (ha1 hlt3)
     have n1 : (x == 32) = false := by
      rw [beq_eq_false_iff_ne,← hx];intro e
      have : c = 32 := UInt8.toNat_inj.1 (by show _ = 32;omega)
      rw [this] at hnb;exact absurd hnb (by decide)
     have n2 : (x == 9) = false := by
      rw [beq_eq_false_iff_ne,← hx];intro e
      have : c = 9 := UInt8.toNat_inj.1 (by show _ = 9;omega)
      rw [this] at hnb;exact absurd hnb (by decide)
     by_cases hk : okC c = true
     ·have hkk := of_decide_eq_true hk
      have n3 : ¬ x < 33 := by omega
      have n4 : ¬ 126 < x := by omega
      have n5 : 33 ≤ x := by omega
      have n6 : x ≤ 126 := by omega
      rcases hf with rfl | ⟨p,rfl,hpp⟩
      ·have HN := Lib.hid (HA.out.first HC.out hk)
       clear ha1 ha2 hc hx hx255 hss ha hj k0 hkk
       gi_wp2
       refine ⟨⟨pos + 1,(pos : Int),pre,by omega,rfl,.inr ⟨pos,rfl,by omega⟩,HN,hI2,hj2,hk2⟩,?_⟩
       rw [hI2.pos];exact HMS.out
      ·have HN := Lib.hid (HA.out.more HC.out hk)
       have hp0 : ¬ (p : Int) < 0 := by omega
       clear ha1 ha2 hc hx hx255 hss ha hj k0 hkk
       gi_wp2
       refine ⟨⟨pos + 1,(p : Int),pre,by omega,rfl,.inr ⟨p,rfl,by omega⟩,HN,hI2,hj2,hk2⟩,?_⟩
       rw [hI2.pos];exact HMS.out
     ·have hnk : okC c = false := by simpa using hk
      have hxx : x < 33 ∨ (33 ≤ x ∧ 126 < x) := by
       unfold okC at hnk
       have := of_decide_eq_false hnk
       omega
      clear ha1 ha2 hc hx hx255 hss ha
      rcases hxx with n3 | ⟨n5,n4⟩
      ·obtain ⟨fn,tmps,assign,body,hy,hR⟩ := hY pre ([],false) w2 hj2 (by have := HA.out.len;omega)
       simp only [encW] at hy
       have HE := Lib.hid (HA.out.bad HC.out hnb hnk)
       clear k0 hj
       gi_wp2
       refine hR.mono ?_
       rintro e W3 (⟨rfl,hJ3,hk3⟩ | ⟨rfl,hJx3⟩)
       ·gi_wp2
        refine bodyPost_ret (results_none rfl _ _ _) rfl ?_
        exact ⟨⟨_,rfl⟩,.inl ⟨_,HE.out.symm,hJ3⟩⟩
       ·gi_wp2
        refine bodyPost_ret (results_none rfl _ _ _) rfl ?_
        exact ⟨⟨_,rfl⟩,.inr ⟨_,by rw [HE.out];exact List.prefix_refl _,hJx3⟩⟩
      ·have n3 : ¬ x < 33 := by omega
       obtain ⟨fn,tmps,assign,body,hy,hR⟩ := hY pre ([],false) w2 hj2 (by have := HA.out.len;omega)
       simp only [encW] at hy
       have HE := Lib.hid (HA.out.bad HC.out hnb hnk)
       clear k0 hj
       gi_wp2
       refine hR.mono ?_
       rintro e W3 (⟨rfl,hJ3,hk3⟩ | ⟨rfl,hJx3⟩)
       ·gi_wp2
        refine bodyPost_ret (results_none rfl _ _ _) rfl ?_
        exact ⟨⟨_,rfl⟩,.inl ⟨_,HE.out.symm,hJ3⟩⟩
       ·gi_wp2
        refine bodyPost_ret (results_none rfl _ _ _) rfl ?_
        exact ⟨⟨_,rfl⟩,.inr ⟨_,by rw [HE.out];exact List.prefix_refl _,hJx3⟩⟩
   ·have hnx : ∀ ty,(Instr.next (.pointer (some ⟨D,0,none⟩)) true ty).run Tryz.prog wr = .ok (.tuple #[.bool true,.int .i64 pos,.int .i32 (Utf8.decode s pos).1]) (wr.iterAt D s (pos + (Utf8.decode s pos).2)) := fun ty => Lib.run_next_any_at wr _ s pos ty hII hlt
    have hhi := (decode_high s pos hlt (by rw [hc];omega)).1
    obtain ⟨y,hy⟩ : ∃ y : Int,((Utf8.decode s pos).1 : Int) = y := ⟨_,rfl⟩
    have n5 : 33 ≤ y := by omega
    have n4 : 126 < y := by omega
    have n3 : ¬ y < 33 := by omega
    have n1 : (y == 32) = false := by rw [beq_eq_false_iff_ne];omega
    have n2 : (y == 9) = false := by rw [beq_eq_false_iff_ne];omega
    rw [hy] at hnx
    have hlt3 : pos < t.length := by
     rcases Nat.lt_or_ge pos t.length with h | h
     ·exact h
     ·rw [ha2 (by omega)] at ha;exact absurd (by decide) ha
    have HC := Lib.hid (ha1 hlt3)
    have hnk : okC c = false := by unfold okC;exact decide_eq_false (by omega)
    have hnb : isBlk c = false := by
     cases hb : isBlk c with
     | false => rfl
     | true =>
      unfold isBlk at hb
      rw [Bool.or_eq_true,decide_eq_true_eq,decide_eq_true_eq] at hb
      rcases hb with h | h <;> (rw [h] at ha;exact absurd (by decide) ha)
    have hj2 := abides_iter hJ' (Nat.le_refl D) hI (pos + (Utf8.decode s pos).2) hj
    have hk2 := (World.cell?_of_block (a := ⟨tB,0,none⟩) (Lib.iterAt_other wr D tB s (pos + (Utf8.decode s pos).2) (by omega))).trans k0
    generalize wr.iterAt D s (pos + (Utf8.decode s pos).2) = w2 at hnx hj2 hk2
    clear hI hII ha1 ha2 hc hx hx255 hss ha hhi hy
    obtain ⟨fn,tmps,assign,body,hy,hR⟩ := hY pre ([],false) w2 hj2 (by have := HA.out.len;omega)
    simp only [encW] at hy
    have HE := Lib.hid (HA.out.bad HC.out hnb hnk)
    clear k0 hj
    gi_wp2
    refine hR.mono ?_
    rintro e W3 (⟨rfl,hJ3,hk3⟩ | ⟨rfl,hJx3⟩)
    ·gi_wp2
     refine bodyPost_ret (results_none rfl _ _ _) rfl ?_
     exact ⟨⟨_,rfl⟩,.inl ⟨_,HE.out.symm,hJ3⟩⟩
    ·gi_wp2
     refine bodyPost_ret (results_none rfl _ _ _) rfl ?_
     exact ⟨⟨_,rfl⟩,.inr ⟨_,by rw [HE.out];exact List.prefix_refl _,hJx3⟩⟩
  ·have hnx : ∀ ty,(Instr.next (.pointer (some ⟨D,0,none⟩)) true ty).run Tryz.prog wr = .ok (.tuple #[.bool false]) wr := fun ty => Lib.run_next_end_at wr _ s pos ty hII hlt
   have hd := HA.out.done (by omega)
   have HE := Lib.hid hd
   clear hd hI hII hss hlt
   gi_wp2
   go_end0
   exact ⟨⟨_,rfl⟩,.inl ⟨pre,HE.out.symm,hj⟩⟩
end Go.Proofs.YtpkmekdpmkfcdaaGreatDoor.Sr
namespace Go.Proofs.YtpkmekdpmkfcdaaGreatDoor.Sr
set_option linter.unusedVariables false
set_option linter.unusedSimpArgs false
open Go.RowKit Go.Shelf Go.Proofs.YtpkmekdpmkfcdaaGreatDoor.Wd Go.Proofs.YtpkmekdpmkfcdaaGreatDoor.Px Go.Proofs.YtpkmekdpmkfcdaaGreatDoor.By Go.Proofs.YtpkmekdpmkfcdaaGreatDoor.En Go.Proofs.YtpkmekdpmkfcdaaGreatDoor.Pl Go.Proofs.YtpkmekdpmkfcdaaGreatDoor.Pf Go.Proofs.YtpkmekdpmkfcdaaGreatDoor.Sc
attribute [local go_sem] Oper.semAt_some
theorem sindex_as {r : List UInt8} {c : UInt8} {q : Int} (h : Hid (Lib.indexByte r c = q)) (w : World) :
  Calls Tryz.prog 148 #[.string ⟨r.toArray⟩,.string ⟨#[c]⟩] w fun e w' => e = .returned (.int .i64 q) ∧ w' = w := by
 have := Tryz.stringslite_Index_one ⟨r.toArray⟩ c w
 rwa [show (⟨r.toArray⟩ : ByteArray).data.toList = r from rfl,h.out] at this
/-- what is cut off ahead of c, and the rest -/
def cutV (t : List UInt8) : Option Nat → Value
 | some p => .tuple #[.string ⟨(t.take p).toArray⟩,.string ⟨(t.drop (p + 1)).toArray⟩,.bool true]
 | none => .tuple #[.string ⟨t.toArray⟩,.string ⟨#[]⟩,.bool false]
/-- where c stands first -/
def CutAt (c : UInt8) (t : List UInt8) : Option Nat → Prop
 | some p => p < t.length ∧ t = t.take p ++ c :: t.drop (p + 1) ∧ c ∉ t.take p
 | none => c ∉ t
set_option maxRecDepth 20000 in
theorem scut_any (t : List UInt8) (c : UInt8) (ht : t.length ≤ 140737488355328) (w : World) :
  ∃ o,CutAt c t o ∧ Calls Tryz.prog 76 #[.string ⟨t.toArray⟩,.string ⟨#[c]⟩] w fun e w' => e = .returned (cutV t o) ∧ Below w.heap.size w w' := by
 rcases index_spec c t with ⟨h1,h2⟩ | ⟨p,h1,h2,h3,h4⟩
 ·refine ⟨none,h2,?_⟩
  have HQ := Lib.hid h1
  go_enter Tryz.func76,Tryz.ntmps76
  go_wp2_with fail
  refine (sindex_as HQ w).mono ?_
  rintro e w1 ⟨rfl,rfl⟩
  go_wp2
  refine bodyPost_ret (results_tmp3 rfl _ _ _) rfl ?_
  exact ⟨rfl,Below.refl _ _⟩
 ·refine ⟨some p,⟨h2,h3,h4⟩,?_⟩
  have HQ := Lib.hid h1
  have i0 : (0 : Int) ≤ (p : Int) := by omega
  have i1 : (p : Int) ≤ (t.length : Int) := by omega
  have i2 : (p : Int) + 1 ≤ (t.length : Int) := by omega
  have i3 : (t.length : Int) ≤ 140737488355328 := by omega
  have e1 := ext_take t p
  have e2 := ext_drop t (p + 1) t.length rfl
  clear h1 h3 h4
  go_enter Tryz.func76,Tryz.ntmps76
  go_wp2_with fail
  refine (sindex_as HQ w).mono ?_
  rintro e w1 ⟨rfl,rfl⟩
  go_wp2_with fail
  refine wp_region_after (by kernel_rfl) (by kernel_rfl) ?_
  repeat (go_big_quiet_step (fail))
  refine wpQuiet_nil ?_
  rintro _ ⟨y,rfl⟩
  have hy := y.b
  go_wp2
  refine bodyPost_ret (results_tmp3 rfl _ _ _) rfl ?_
  exact ⟨rfl,hy⟩
theorem cut_uniq {c : UInt8} {t : List UInt8} {a b : Option Nat} (ha : CutAt c t a) (hb : CutAt c t b) : a = b := by
 cases a with
 | none =>
  cases b with
  | none => rfl
  | some q =>
   obtain ⟨h1,h2,h3⟩ := hb
   exact absurd (by rw [h2];simp) ha
 | some p =>
  obtain ⟨h1,h2,h3⟩ := ha
  cases b with
  | none => exact absurd (by rw [h2];simp) hb
  | some q =>
   obtain ⟨k1,k2,k3⟩ := hb
   have get : ∀ {r : Nat},r < t.length → t = t.take r ++ c :: t.drop (r + 1) → t[r]? = some c := fun {r} hr h => by
    have : (t.take r ++ c :: t.drop (r + 1))[r]? = some c := by
     rw [List.getElem?_append_right (by rw [List.length_take];omega),List.length_take,Nat.min_eq_left (by omega),Nat.sub_self];rfl
    rwa [← h] at this
   rcases Nat.lt_trichotomy p q with h | h | h
   ·exact absurd (List.mem_of_getElem? (show (t.take q)[p]? = some c by rw [List.getElem?_take_of_lt h];exact get h1 h2)) k3
   ·rw [h]
   ·exact absurd (List.mem_of_getElem? (show (t.take p)[q]? = some c by rw [List.getElem?_take_of_lt h];exact get k1 k2)) h3
theorem cut_any (t : List UInt8) (c : UInt8) (ht : t.length ≤ 140737488355328) (w : World) :
  ∃ o,CutAt c t o ∧ Calls Tryz.prog 40 #[.string ⟨t.toArray⟩,.string ⟨#[c]⟩] w fun e w' => e = .returned (cutV t o) ∧ Below w.heap.size w w' := by
 obtain ⟨o,ho,hcall⟩ := scut_any t c ht w
 refine ⟨o,ho,?_⟩
 cases o with
 | none =>
  go_enter Tryz.func40,Tryz.ntmps40
  go_wp2_with fail
  refine hcall.mono ?_
  rintro e w1 ⟨rfl,hb⟩
  simp only [cutV]
  go_wp2
  refine bodyPost_ret (results_tmp3 rfl _ _ _) rfl ?_
  exact ⟨rfl,hb⟩
 | some p =>
  go_enter Tryz.func40,Tryz.ntmps40
  go_wp2_with fail
  refine hcall.mono ?_
  rintro e w1 ⟨rfl,hb⟩
  simp only [cutV]
  go_wp2
  refine bodyPost_ret (results_tmp3 rfl _ _ _) rfl ?_
  exact ⟨rfl,hb⟩
/-- ahead of the byte that ends a line -/
def headOf (t : List UInt8) : Option Nat → List UInt8
 | some p => t.take p
 | none => t
theorem wds_head : ∀ (a cur : List UInt8) (r : List UInt8),35 ∉ a → wds cur (a ++ 35 :: r) = wds cur a
 | [],cur,r,_ => by rw [List.nil_append];simp [wds]
 | c :: a,cur,r,h => by
  have hc : c ≠ 35 := fun e => h (by rw [e];simp)
  have ha : 35 ∉ a := fun hc => h (List.mem_cons_of_mem _ hc)
  rw [List.cons_append,wds,wds,if_neg hc,if_neg hc,wds_head a _ r ha,wds_head a _ r ha]
theorem head_spec {t : List UInt8} {o : Option Nat} (h : CutAt 35 t o) : 35 ∉ headOf t o ∧ wrds t = wds [] (headOf t o) ∧ (headOf t o).length ≤ t.length := by
 cases o with
 | none => exact ⟨h,rfl,Nat.le_refl _⟩
 | some p =>
  obtain ⟨h1,h2,h3⟩ := h
  refine ⟨h3,?_,by show (t.take p).length ≤ _;rw [List.length_take];omega⟩
  show wds [] t = wds [] (t.take p)
  have := wds_head (t.take p) [] (t.drop (p + 1)) h3
  rw [← h2] at this
  exact this
/-! ### all words of a line -/
theorem words_any (t : List UInt8) (w : World) : Calls Tryz.prog 59 #[.string ⟨t.toArray⟩] w fun e w' => e = .returned (.func (.func 149) #[] #[.pointer (some ⟨w.heap.size,0,none⟩)]) ∧ w' = w.alloc (.cells #[.string ⟨t.toArray⟩] 9) := by
 go_enter Tryz.func59,Tryz.ntmps59
 go_wp2
 go_ret
 exact ⟨rfl,rfl⟩
def SplitR (o : Option (List (List UInt8))) (w : World) (e : Ending) (w' : World) : Prop := match o with
 | some ws => ∃ A k,e = .returned (.tuple #[.slice A ws.length k,.int .i64 0]) ∧ w'.ownsRow w.heap.size 9 1 (.slice A ws.length k) ws.length (ws.map strc)
 | none => e = .returned (.tuple #[.slice none 0 0,.int .i64 224])
theorem box_app {W w1 : World} {n1 B : Nat} {t e : TypeId} {v v' : Value} {k m : Nat} {xs ys : List Value} {tmp : Obj}
  (hv : Boxed W B t v) (hte : t ≠ e) (hrow : W.ownsRow n1 e 1 v k xs) (hown' : w1.ownsRow n1 e 1 v' m ys) (hgrow : (W.alloc tmp).grownBy w1 v.ownBlock) :
  Boxed w1 B t v ∧ Boxed (w1.setCell ⟨B,0,none⟩ v') B t v' ∧ (w1.setCell ⟨B,0,none⟩ v').ownsRow n1 e 1 v' m ys ∧ KeepsOthers W (w1.setCell ⟨B,0,none⟩ v') ∧ W.grownBy w1 v.ownBlock := by
 have hv1 : Boxed w1 B t v := (hv.alloc tmp).kept hgrow (hv.not_row hte hrow)
 refine ⟨hv1,hv1.set v',hown'.kept (grownBy_setCell' w1 B v') (.inr (hv1.not_row hte hown').symm),?_,⟨hgrow.os,hgrow.tape,hgrow.output,Nat.le_trans (by simp) hgrow.size,fun j hj hne => (hgrow.block j (by simp;omega) hne).trans (heap_alloc_old W tmp hj)⟩⟩
 refine ((KeepsOthers.alloc W tmp).trans (KeepsOthers.of_grownBy hgrow fun j o ej hj => ?_)).trans (KeepsOthers.setCell _ _ _)
 rcases (hrow.alloc tmp).2 with ⟨rfl,_⟩ | ⟨g,cap,cur,rfl,_,hgb,_⟩
 ·simp [Value.ownBlock] at ej
 ·obtain rfl : g = j := by simpa [Value.ownBlock] using ej
  rw [hgb] at hj;cases hj;rfl
/-- between two rounds: the results' boxes, the list's box, its row behind n1 -/
structure SI (w : World) (n1 L : Nat) (ws : List (List UInt8)) (W : World) : Prop where
 ex : ∃ v,Boxed W L 37 v ∧ W.ownsRow n1 9 1 v ws.length (ws.map strc)
 r0 : Boxed W w.heap.size 37 (.slice none 0 0)
 r1 : Boxed W (w.heap.size + 1) 24 (.int .i64 0)
 bl : Below w.heap.size w W
 sz : L + 1 < W.heap.size
theorem SI.own {w : World} {n1 L : Nat} {ws : List (List UInt8)} {X Y : World} (h : SI w n1 L ws X) {row : Option Nat} (hg : X.grownBy Y row) (hr : ∀ r,row = some r → w.heap.size ≤ r ∧ ∃ o : Obj,X.heap[r]? = some o ∧ o.isCells = false) : SI w n1 L ws Y := by
 obtain ⟨⟨v,hv,ho⟩,r0,r1,hb,hz⟩ := h
 have ne : ∀ {B : Nat} {t : TypeId} {u : Value},Boxed X B t u → some B ≠ row := fun hB e => by
  obtain ⟨-,o,ho,hc⟩ := hr _ e.symm
  rw [show X.heap[_]? = _ from hB] at ho
  cases ho;cases hc
 refine ⟨⟨v,hv.kept hg (ne hv),ho.kept hg ?_⟩,r0.kept hg (ne r0),r1.kept hg (ne r1),hb.grown hg hb.size (fun r e => (hr r e).1),Nat.lt_of_lt_of_le hz hg.size⟩
 rcases ho.2 with ⟨rfl,_⟩ | ⟨g,cap,cur,rfl,_,hgb,_⟩
 ·exact .inl rfl
 ·refine .inr fun e => ?_
  obtain ⟨-,o,ho,hc⟩ := hr g (by simpa [Value.ownBlock] using e.symm)
  rw [hgb] at ho;cases ho;cases hc
/-- a round has left: the results' boxes -/
structure SX (w : World) (v : Value) (x : Int) (W : World) : Prop where
 r0 : Boxed W w.heap.size 37 v
 r1 : Boxed W (w.heap.size + 1) 24 (.int .i64 x)
 bl : Below w.heap.size w W
theorem SX.own {w : World} {v : Value} {x : Int} {X Y : World} (h : SX w v x X) {row : Option Nat} (hg : X.grownBy Y row) (hr : ∀ r,row = some r → w.heap.size ≤ r ∧ ∃ o : Obj,X.heap[r]? = some o ∧ o.isCells = false) : SX w v x Y := by
 have ne : ∀ {B : Nat} {t : TypeId} {u : Value},Boxed X B t u → some B ≠ row := fun hB e => by
  obtain ⟨-,o,ho,hc⟩ := hr _ e.symm
  rw [show X.heap[_]? = _ from hB] at ho
  cases ho;cases hc
 exact ⟨h.r0.kept hg (ne h.r0),h.r1.kept hg (ne h.r1),h.bl.grown hg h.bl.size (fun r e => (hr r e).1)⟩
theorem SX.results {w : World} {v : Value} {x : Int} {W : World} (h : SX w v x W) {D : Nat} {o : Obj} (hK : W.heap[D]? = some o) (ho : o.isCells = false) (hD : w.heap.size ≤ D) (o' : Obj) : SX w v x (W.putObj D o') :=
 h.own (grownBy_putObj' W D o') (fun r e => by cases e;exact ⟨hD,_,hK,ho⟩)
def SIw (w : World) (n1 L : Nat) (pre : List (List UInt8 × Bool)) (W : World) : Prop := (∀ x ∈ pre,x.2 = true) ∧ pre.length ≤ 2000002 ∧ SI w n1 L (pre.map (·.1)) W
def SXw (w : World) (c : Code) (pre : List (List UInt8 × Bool)) (W : World) : Prop := c = .ret ∧ (∃ x ∈ pre,x.2 = false) ∧ SX w (.slice none 0 0) 224 W
set_option maxRecDepth 100000 in
set_option maxHeartbeats 4000000 in
theorem split_in (line : List UInt8) (hl : line.length ≤ 1900000) (w : World) :
  CallsIn Fence.wide 9 Tryz.prog 30 #[.string ⟨line.toArray⟩] w fun e w' => SplitR (wrds line) w e w' ∧ Below w.heap.size w w' := by
 obtain ⟨i0,hi0,hz0,hz1,hz2⟩ := info_parts infoStr
 have hF : Fence.wide.fn 40 := trivial
 have hF2 : Fence.wide.fn 59 := trivial
 obtain ⟨oc,hoc,-⟩ := cut_any line 35 (by omega) w
 have hcut : ∀ W : World,Calls Tryz.prog 40 #[.string ⟨line.toArray⟩,.string ⟨#[35]⟩] W fun e w' => e = .returned (cutV line oc) ∧ Below W.heap.size W w' := fun W => by
  obtain ⟨o2,ho2,h⟩ := cut_any line 35 (by omega) W
  rwa [cut_uniq ho2 hoc] at h
 obtain ⟨h35,hwrd,hlen⟩ := head_spec hoc
 have hcv : ∃ r b,cutV line oc = .tuple #[.string ⟨(headOf line oc).toArray⟩,.string r,.bool b] := by
  cases oc with
  | none => exact ⟨_,_,rfl⟩
  | some p => exact ⟨_,_,rfl⟩
 obtain ⟨rr,rb,hcv⟩ := hcv
 rw [hcv] at hcut
 generalize headOf line oc = t at h35 hwrd hlen hcv hcut
 clear hcv hoc
 refine callsIn_of_wp_marks Tryz.func30 rfl trivial ?_ rfl
 simp only [Tryz.ntmps30,List.size_toArray,List.length_cons,List.length_nil,Nat.reduceAdd,Nat.reduceSub,Array.replicate_succ,Array.replicate_zero,List.push_toArray,List.append_toArray,List.nil_append,List.cons_append]
 have hb0 := ((Below.refl w.heap.size w).alloc (Nat.le_refl _) (.cells #[.slice none 0 0] 37)).alloc (by simp) (.cells #[.int .i64 0] 24)
 have hr0 : Boxed ((w.alloc (.cells #[.slice none 0 0] 37)).alloc (.cells #[.int .i64 0] 24)) w.heap.size 37 (.slice none 0 0) := (Boxed.new w _ _).alloc _
 have hr1 : Boxed ((w.alloc (.cells #[.slice none 0 0] 37)).alloc (.cells #[.int .i64 0] 24)) (w.heap.size + 1) 24 (.int .i64 0) := by
  have := Boxed.new (w.alloc (.cells #[.slice none 0 0] 37)) 24 (.int .i64 0)
  rwa [World.size_alloc] at this
 gi_wp2_with (first
  | (gi_at_call 40;refine (callsIn_wide.2 (hcut _)).mono ?_;rintro e w1 ⟨rfl,hb1⟩;have hr0' := (hb1.block _ hr0.lt).trans hr0;have hr1' := (hb1.block _ hr1.lt).trans hr1;have hb2 := hb0.trans (hb1.mono hb0.size))
  | (gi_at_call 59;refine (callsIn_wide.2 (words_any t _)).mono ?_;rintro e w2 ⟨rfl,rfl⟩))
 obtain ⟨W0,hW0⟩ : ∃ W0,(w1.alloc (.cells #[.slice none 0 0] 37)).alloc (.cells #[.string ⟨t.toArray⟩] 9) = W0 := ⟨_,rfl⟩
 have hsz : W0.heap.size = w1.heap.size + 2 := by rw [← hW0];simp
 have hws := hb2.size
 have hr1lt : w.heap.size + 1 < w1.heap.size := (Array.getElem?_eq_some_iff.1 hr1').1
 have g0 : W0.cell? ⟨w1.heap.size + 1,0,none⟩ = some (.string ⟨t.toArray⟩) := by
  rw [← hW0]
  have := (Boxed.new (w1.alloc (.cells #[.slice none 0 0] 37)) 9 (.string ⟨t.toArray⟩)).cell
  rwa [World.size_alloc] at this
 have hI0 : SIw w (w1.heap.size + 2) w1.heap.size [] W0 := by
  refine ⟨fun x hx => (by simp at hx),by simp,⟨⟨.slice none 0 0,?_,?_⟩,?_,?_,?_,by omega⟩⟩
  ·rw [← hW0];exact (Boxed.new w1 _ _).alloc _
  ·exact World.ownsRow_nil _ _ _ _
  ·rw [← hW0];exact (Boxed.alloc hr0' _).alloc _
  ·rw [← hW0];exact (Boxed.alloc hr1' _).alloc _
  ·rw [← hW0];exact (hb2.alloc hws _).alloc (by simp;omega) _
 rw [hW0]
 clear hW0 hr0' hr1'
 generalize w1.heap.size = N1 at *
 refine wpIn_rangeFunc_ownF (n := 9) rfl (by omega) (gf := 149) (lb := #[.pointer (some ⟨N1 + 1,0,none⟩)]) rfl trivial (enters_of Tryz.func149 (by kernel_rfl) rfl)
  (words_seq 8 (N1 + 1) (by omega) t (by omega) W0 (by omega) g0)
  (fun h k => ⟨h.1.trans k.1,k.2.trans h.2⟩) (fun W l o o' hl h1 h2 h3 => ⟨KeepsWalks.putObj _ h1 h3,World.putObj_heap_other (by omega)⟩) (Below.refl _ _) (fun _ => rfl)
  (SIw w (N1 + 2) N1) (SXw w) (fun _ _ _ _ h hg hr => ⟨h.1,h.2.1,h.2.2.own hg (fun r e => ⟨by have := (hr r e).1;omega,(hr r e).2⟩)⟩) (fun _ _ _ _ _ h hg hr => ⟨h.1,h.2.1,h.2.2.own hg (fun r e => ⟨by have := (hr r e).1;omega,(hr r e).2⟩)⟩) hI0
  (fun x => { tmps := #[.string ⟨t.toArray⟩,undef,.pointer (some ⟨w.heap.size,0,none⟩),.pointer (some ⟨w.heap.size + 1,0,none⟩),.pointer (some ⟨N1,0,none⟩),.string ⟨x.1.toArray⟩,.bool x.2,.tuple #[.string ⟨t.toArray⟩,.string rr,.bool rb],.string ⟨line.toArray⟩,.tuple #[.string ⟨t.toArray⟩,.string rr,.bool rb],.string ⟨t.toArray⟩,.string rr,.bool rb,.string ⟨t.toArray⟩,.func (.func 149) #[] #[.pointer (some ⟨N1 + 1,0,none⟩)],.string ⟨x.1.toArray⟩,.bool x.2,undef,undef,undef,undef,undef,undef,undef],defers := [] }) ?assign ?body ?done ?stop
 case assign =>
  intro l x W K hK
  simp only [encW]
  gi_wp2
  exact hK
 case body =>
  rintro l pre ⟨x,ok⟩ W ⟨hy,hlp,hS⟩ hpre
  have hpl : pre.length + 2 ≤ 2000002 := by omega
  obtain ⟨⟨v,hv,ho⟩,r0,r1,hbl,hWz⟩ := hS
  have hWs := hv.lt
  have hc1 := hv.cell
  have hf1 := hv.frozen
  have c0 := r0.cell
  have f0 := r0.frozen
  have c1 := r1.cell
  have f1 := r1.frozen
  cases ok with
  | false =>
   gi_wp2
   exact ⟨(KeepsOthers.setCell _ _ _).trans (KeepsOthers.setCell _ _ _),rfl,⟨_,List.mem_append_right _ (List.mem_singleton.2 rfl),rfl⟩,(r0.set _).kept (grownBy_setCell' _ _ _) (by simp),(r1.kept (grownBy_setCell' _ _ _) (by simp)).set _,(hbl.setCell (Nat.le_refl _) _).setCell (by simp) _⟩
  | true =>
   rw [List.length_map] at ho
   gi_wp2_with (gi_at_builtin;refine wpListIn_append_own _ rfl _ _ 37 rfl (N1 + 2) 9 i0 (.string ⟨#[]⟩) 1 16 Tryz.underlying37 hi0 hz0 hz1 hz2 rfl (by decide) _ _ _ rfl (ho.alloc _) ⟨W.heap.size,0,none⟩ 1 1 [.string ⟨x.toArray⟩] rfl rfl (cell_one_new _ _ _) (by simp [Value.oneCell']) (by have := hlp;unfold maxLen;simp;omega) (by have := hlp;simp;omega) (by simp;omega) ?_;intro v' w3 hown' hgrow hnil3;obtain ⟨hv1,hv2,hr2,hk2,hg2⟩ := box_app hv (by decide) ho hown' hgrow;obtain ⟨g',cap',rfl⟩ := ownsRow_succ hown';have hc2 := hv1.cell;have hf2 := hv1.frozen)
   have hrow : ∀ r,v.ownBlock = some r → N1 + 2 ≤ r := fun r e => by
    rcases ho.2 with ⟨rfl,_⟩ | ⟨g,cap,cur,rfl,h1,_⟩
    ·simp [Value.ownBlock] at e
    ·simp [Value.ownBlock] at e;omega
   have hb3 := hbl.grown hg2 hbl.size (fun r e => by have := hrow r e;omega)
   refine ⟨hk2,⟨hk2.walks,?_⟩,?_,?_,⟨_,hv2,?_⟩,(r0.kept hg2 (r0.not_row (by decide) ho)).kept (grownBy_setCell' _ _ _) (by simp;omega),(r1.kept hg2 (r1.not_row (by decide) ho)).kept (grownBy_setCell' _ _ _) (by simp;omega),hb3.setCell (by omega) _,by have := hg2.size;simp [World.setCell];omega⟩
   ·refine (Below.heap_setCell _ _ _ _ (by simp)).trans ?_
    exact hg2.block _ (by omega) (fun e => by have := hrow _ e.symm;omega)
   ·intro y hm
    rcases List.mem_append.1 hm with h | h
    ·exact hy y h
    ·rw [List.mem_singleton.1 h]
   ·simp;omega
   ·simpa [strc] using hr2
 case done =>
  rintro D xs W hD hxs ⟨hy,hlp,hS⟩ hK
  subst hxs
  obtain ⟨⟨v,hv,ho⟩,r0,r1,hbl,hWz⟩ := hS
  obtain ⟨k,hk⟩ : ∃ k,((wseq [] t).map (·.1)).length = k := ⟨_,rfl⟩
  rw [hk] at ho
  obtain ⟨A,c,rfl⟩ : ∃ A c,v = .slice A k c := by
   rcases ho.2 with ⟨rfl,h0⟩ | ⟨g,cap,cur,rfl,_⟩
   ·exact ⟨none,0,by rw [h0]⟩
   ·exact ⟨_,_,rfl⟩
  have hWs := hv.lt
  have hc1 := hv.cell
  have c0 := r0.cell
  have f0 := r0.frozen
  have c1 := r1.cell
  have f1 := r1.frozen
  gi_wp2
  have hK4 := ((KeepsOthers.setCell W ⟨w.heap.size,0,none⟩ (.slice A k c)).trans (KeepsOthers.setCell _ ⟨w.heap.size + 1,0,none⟩ (.int .i64 0))).same D _ hK rfl
  refine ⟨by simp,.inl ⟨_,_,rfl,run_takeDeferred hK4,?_⟩⟩
  have k0 : Boxed (((W.setCell ⟨w.heap.size,0,none⟩ (.slice A k c)).setCell ⟨w.heap.size + 1,0,none⟩ (.int .i64 0)).putObj D (.deferred none)) w.heap.size 37 (.slice A k c) := ((r0.set _).kept (grownBy_setCell' _ _ _) (by simp)).kept (grownBy_putObj' _ _ _) (by simp;omega)
  have k1 : Boxed (((W.setCell ⟨w.heap.size,0,none⟩ (.slice A k c)).setCell ⟨w.heap.size + 1,0,none⟩ (.int .i64 0)).putObj D (.deferred none)) (w.heap.size + 1) 24 (.int .i64 0) := ((r1.kept (grownBy_setCell' _ _ _) (by simp)).set _).kept (grownBy_putObj' _ _ _) (by simp;omega)
  have ko := ownsRow_putObj ((ho.kept (grownBy_setCell' W w.heap.size (.slice A k c)) (.inr (r0.not_row (by decide) ho).symm)).kept (grownBy_setCell' _ (w.heap.size + 1) (.int .i64 0)) (.inr (r1.not_row (by decide) ho).symm)) (.deferred none) hK4 rfl
  have kb := ((hbl.setCell (p := ⟨w.heap.size,0,none⟩) (Nat.le_refl _) (.slice A k c)).setCell (p := ⟨w.heap.size + 1,0,none⟩) (by simp) (.int .i64 0)).grown (grownBy_putObj' _ D (.deferred none)) (by simp [World.setCell];omega) (fun r e => by cases e;omega)
  have c0 := k0.cell
  have c1 := k1.cell
  refine ⟨.tuple #[.slice A k c,.int .i64 0],?_,?_,kb⟩
  ·simp [results,Tryz.f30,go_sem,c0,c1]
  ·rw [hwrd,wseq_all t [] h35 hy]
   refine ⟨A,c,by rw [hk],?_⟩
   rw [hk]
   rcases ko.2 with ⟨h1,h2⟩ | ⟨g,cap,cur,h1,h2,h3⟩
   ·exact ⟨ko.1,.inl ⟨h1,h2⟩⟩
   ·exact ⟨ko.1,.inr ⟨g,cap,cur,h1,by omega,h3⟩⟩
 case stop =>
  rintro D c pre W hD hpre ⟨rfl,hbad,hS⟩ hK
  gi_wp2
  refine ⟨by simp,.inl ⟨_,_,rfl,run_takeDeferred hK,?_⟩⟩
  obtain ⟨r0,r1,hbl⟩ := hS.results hK rfl (by omega) (.deferred none)
  have c0 := r0.cell
  have c1 := r1.cell
  refine ⟨.tuple #[.slice none 0 0,.int .i64 224],?_,?_,hbl⟩
  ·simp [results,Tryz.f30,go_sem,c0,c1]
  ·rw [hwrd,wseq_bad t [] h35 (by obtain ⟨y,h1,h2⟩ := hbad;exact ⟨y,hpre.subset h1,h2⟩)]
   rfl
theorem split_any (line : List UInt8) (hl : line.length ≤ 1900000) (w : World) : Calls Tryz.prog 30 #[.string ⟨line.toArray⟩] w fun e w' => SplitR (wrds line) w e w' ∧ Below w.heap.size w w' := callsIn_wide.1 (split_in line hl w)
end Go.Proofs.YtpkmekdpmkfcdaaGreatDoor.Sr
