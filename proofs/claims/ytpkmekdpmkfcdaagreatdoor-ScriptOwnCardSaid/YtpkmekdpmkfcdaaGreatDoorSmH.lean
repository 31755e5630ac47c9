/- Contract: the words of a letter. Contract: a step's words. Contract: a script as a text. Contracts: equal steps are told equal. -/
import Derived.Test.YtpkmekdpmkfcdaaGreatDoorSmG
import Derived.Test.YtpkmekdpmkfcdaaGreatDoorStampA
import Derived.Test.YtpkmekdpmkfcdaaGreatDoorMK
namespace Go.Proofs.YtpkmekdpmkfcdaaGreatDoor.Sr
set_option linter.unusedVariables false
set_option linter.unusedSimpArgs false
open Go.RowKit Go.Proofs.YtpkmekdpmkfcdaaGreatDoor.Wd Go.Proofs.YtpkmekdpmkfcdaaGreatDoor.Px Go.Proofs.YtpkmekdpmkfcdaaGreatDoor.By Go.Proofs.YtpkmekdpmkfcdaaGreatDoor.En Go.Proofs.YtpkmekdpmkfcdaaGreatDoor.Pl Go.Proofs.YtpkmekdpmkfcdaaGreatDoor.Pf Go.Proofs.YtpkmekdpmkfcdaaGreatDoor.Sc
theorem flagged_as {b : List Bool} {t : List UInt8} {n : Nat} (h : Hid (bitO b = t)) (hn : Hid (b.length = n)) (A : Option Addr) (c : Nat) (w : World) (hb : n ≤ 2000000) (hc : n ≤ c) (hs : Shows Value.bool w w.heap.size A b) :
  Calls Tryz.prog 219 #[.slice A n c] w fun e w' => e = .returned (.string ⟨t.toArray⟩) ∧ Below w.heap.size w w' := by
 have hn := hn.out
 subst hn
 have := flagged_any b A c w hb hc hs
 rwa [h.out] at this
theorem faultsof_as {l : List (Int × Int)} {r : Except Int (List UInt8)} {n : Nat} (hr : Hid (joined (fltsT l) = r)) (hn : Hid (l.length = n)) (A : Option Addr) (c : Nat) (w : World) (hE : Env w) (hl : n ≤ 2000000) (hc : n ≤ c) (hs : ShF w A l) :
  Calls Tryz.prog 220 #[.slice A n c] w fun e w' => TextR r e ∧ Below w.heap.size w w' := by
 have hn := hn.out
 subst hn
 have := faultsof_any l A c w hE hl hc hs
 rwa [hr.out] at this
theorem printc_as {l : List Chg} {kvs : List Value} {r : Except Int (List UInt8)} {n : Nat} (hr : Hid (joined (chgsT l) = r)) (hn : Hid (l.length = n)) (A : Option Addr) (c : Nat) (w : World) (hE : Env w) (hT : Tabs w) (hl : n ≤ 2000000) (hc : n ≤ c) (hs : ShC w A l kvs) (hL : ∀ c ∈ l,Lim c) :
  Calls Tryz.prog 15 #[.slice A n c] w fun e w' => TextR r e ∧ Below w.heap.size w w' := by
 have hn := hn.out
 subst hn
 have := printc_in l kvs A c w hE hT hl hc hs hL
 rwa [hr.out] at this
theorem svalid_as {s n : Int} {b : Bool} (h : Hid (vld s n = b)) (h0 : s ≤ 9223372036854775807) (w : World) :
  Calls Tryz.prog 217 #[.agg #[.int .i64 s,.int .i64 n]] w fun e w' => e = .returned (.bool b) ∧ Below w.heap.size w w' := by
 have := St.valid_any s n w h0
 rwa [h.out] at this
theorem sprint_as {s n : Int} {t : List UInt8} (h : Hid (prt s n = t)) (hv : Hid (vld s n = true)) (h0 : s ≤ 9223372036854775807) (w : World) (hE : Env w) :
  Calls Tryz.prog 218 #[.agg #[.int .i64 s,.int .i64 n]] w fun e w' => e = .returned (.string ⟨t.toArray⟩) ∧ Below w.heap.size w w' := by
 have h2 := (vld_iff s n).1 hv.out
 have := St.print_yes s n w h2.1 h0 h2.2.1 h2.2.2 hE
 rwa [h.out] at this
theorem TextR.form {r : Except Int (List UInt8)} {e : Ending} (h : TextR r e) : ∃ t x,e = .returned (.tuple #[.string ⟨t⟩,.int .i64 x]) := by
 cases r with
 | ok t => exact ⟨_,_,h⟩
 | error x => exact ⟨_,_,h⟩
set_option maxRecDepth 20000 in
theorem wordof_H (o : Opp) (Ad Ac Af Ab : Option Addr) (cd cc cf cb : Nat) (kvs : List Value) (w : World) (hE : Env w) (hT : Tabs w) (hL : LimO o)
  (hs : ShOp w o (.slice Ad o.data.length cd) (.slice Ac o.chs.length cc) (.slice Af o.fls.length cf) (.slice Ab o.keep.length cb) kvs) :
  Calls Tryz.prog 147 #[.agg (opC o (.slice Ad o.data.length cd) (.slice Ac o.chs.length cc) (.slice Af o.fls.length cf) (.slice Ab o.keep.length cb)),.int .i32 72] w fun e w' => TextR (joined (fldT o 72)) e ∧ Below w.heap.size w w' := by
 obtain ⟨ko,a,k,t,x,link,data,sec,nano,blk,wid,chs,fls,keep⟩ := o
 obtain ⟨l0,l1,l2,l3,l4,l5⟩ := hL
 obtain ⟨⟨_,_,e1,h1,s1⟩,⟨_,_,e2,h2,s2⟩,⟨_,_,e3,h3,s3⟩,⟨_,_,e4,h4,s4⟩⟩ := hs
 simp only [Value.slice.injEq,true_and] at e1 e2 e3 e4
 simp only at l0 l1 l2 l3 l4 l5 h1 h2 h3 h4 s1 s2 s3 s4
 obtain ⟨rfl,rfl⟩ := e1
 obtain ⟨rfl,rfl⟩ := e2
 obtain ⟨rfl,rfl⟩ := e3
 obtain ⟨rfl,rfl⟩ := e4
 have hbx : Below w.heap.size w (w.alloc (.cells (opC ⟨ko,a,k,t,x,link,data,sec,nano,blk,wid,chs,fls,keep⟩ (.slice Ad data.length cd) (.slice Ac chs.length cc) (.slice Af fls.length cf) (.slice Ab keep.length cb)) 108)) := one w _
 have s1 := Lib.hid (s1.on hbx)
 have s2 := Lib.hid (s2.on hbx)
 have s3 := Lib.hid (s3.on hbx)
 have s4 := Lib.hid (s4.on hbx)
 have HE := Lib.hid (hE.on hbx)
 have HT := Lib.hid (hT.on hbx)
 obtain ⟨N1,n1⟩ : ∃ n,data.length = n := ⟨_,rfl⟩
 obtain ⟨N2,n2⟩ : ∃ n,chs.length = n := ⟨_,rfl⟩
 obtain ⟨N3,n3⟩ : ∃ n,fls.length = n := ⟨_,rfl⟩
 obtain ⟨N4,n4⟩ : ∃ n,keep.length = n := ⟨_,rfl⟩
 rw [n1,n2,n3,n4] at s1 s2 s3 s4 HE HT hbx
 rw [n1] at l1 h1
 rw [n2] at l2 h2
 rw [n3] at l3 h3
 rw [n4] at l4 h4
 rw [n1,n2,n3,n4]
 have HN1 := Lib.hid n1
 have HN2 := Lib.hid n2
 have HN3 := Lib.hid n3
 have HN4 := Lib.hid n4
 have HB := Lib.hid hbx
 clear n1 n2 n3 n4 hbx hE hT
 obtain ⟨jr,hjr⟩ : ∃ r,joined (fldT ⟨ko,a,k,t,x,link,data,sec,nano,blk,wid,chs,fls,keep⟩ 72) = r := ⟨_,rfl⟩
 rw [hjr]
 have HJ := Lib.hid hjr
 clear hjr
 simp only [opC]
 simp only [opC] at s1 s2 s3 s4 HE HT HB
 obtain ⟨tx,htx⟩ : ∃ t,hexO data = t := ⟨_,rfl⟩
 have HX := Lib.hid htx
 have HR : Hid (jr = .ok tx) := Lib.hid (by rw [← HJ.out,← htx];unfold fldT;rw [if_pos rfl];rfl)
 clear htx HJ
 go_enter Tryz.func147,Tryz.ntmps147
 go_wp2_with (go_at_call 64;refine (hexed_as HX HN1 Ad cd _ l1 h1 s1.out).mono ?_;rintro e w3 ⟨rfl,hb3⟩)
 go_ret2
 exact ⟨by rw [HR.out];exact rfl,HB.out.trans (hb3.mono HB.out.size)⟩
set_option maxRecDepth 20000 in
theorem wordof_B (o : Opp) (Ad Ac Af Ab : Option Addr) (cd cc cf cb : Nat) (kvs : List Value) (w : World) (hE : Env w) (hT : Tabs w) (hL : LimO o)
  (hs : ShOp w o (.slice Ad o.data.length cd) (.slice Ac o.chs.length cc) (.slice Af o.fls.length cf) (.slice Ab o.keep.length cb) kvs) :
  Calls Tryz.prog 147 #[.agg (opC o (.slice Ad o.data.length cd) (.slice Ac o.chs.length cc) (.slice Af o.fls.length cf) (.slice Ab o.keep.length cb)),.int .i32 66] w fun e w' => TextR (joined (fldT o 66)) e ∧ Below w.heap.size w w' := by
 obtain ⟨ko,a,k,t,x,link,data,sec,nano,blk,wid,chs,fls,keep⟩ := o
 obtain ⟨l0,l1,l2,l3,l4,l5⟩ := hL
 obtain ⟨⟨_,_,e1,h1,s1⟩,⟨_,_,e2,h2,s2⟩,⟨_,_,e3,h3,s3⟩,⟨_,_,e4,h4,s4⟩⟩ := hs
 simp only [Value.slice.injEq,true_and] at e1 e2 e3 e4
 simp only at l0 l1 l2 l3 l4 l5 h1 h2 h3 h4 s1 s2 s3 s4
 obtain ⟨rfl,rfl⟩ := e1
 obtain ⟨rfl,rfl⟩ := e2
 obtain ⟨rfl,rfl⟩ := e3
 obtain ⟨rfl,rfl⟩ := e4
 have hbx : Below w.heap.size w (w.alloc (.cells (opC ⟨ko,a,k,t,x,link,data,sec,nano,blk,wid,chs,fls,keep⟩ (.slice Ad data.length cd) (.slice Ac chs.length cc) (.slice Af fls.length cf) (.slice Ab keep.length cb)) 108)) := one w _
 have s1 := Lib.hid (s1.on hbx)
 have s2 := Lib.hid (s2.on hbx)
 have s3 := Lib.hid (s3.on hbx)
 have s4 := Lib.hid (s4.on hbx)
 have HE := Lib.hid (hE.on hbx)
 have HT := Lib.hid (hT.on hbx)
 obtain ⟨N1,n1⟩ : ∃ n,data.length = n := ⟨_,rfl⟩
 obtain ⟨N2,n2⟩ : ∃ n,chs.length = n := ⟨_,rfl⟩
 obtain ⟨N3,n3⟩ : ∃ n,fls.length = n := ⟨_,rfl⟩
 obtain ⟨N4,n4⟩ : ∃ n,keep.length = n := ⟨_,rfl⟩
 rw [n1,n2,n3,n4] at s1 s2 s3 s4 HE HT hbx
 rw [n1] at l1 h1
 rw [n2] at l2 h2
 rw [n3] at l3 h3
 rw [n4] at l4 h4
 rw [n1,n2,n3,n4]
 have HN1 := Lib.hid n1
 have HN2 := Lib.hid n2
 have HN3 := Lib.hid n3
 have HN4 := Lib.hid n4
 have HB := Lib.hid hbx
 clear n1 n2 n3 n4 hbx hE hT
 obtain ⟨jr,hjr⟩ : ∃ r,joined (fldT ⟨ko,a,k,t,x,link,data,sec,nano,blk,wid,chs,fls,keep⟩ 66) = r := ⟨_,rfl⟩
 rw [hjr]
 have HJ := Lib.hid hjr
 clear hjr
 simp only [opC]
 simp only [opC] at s1 s2 s3 s4 HE HT HB
 obtain ⟨tx,htx⟩ : ∃ t,bitO keep = t := ⟨_,rfl⟩
 have HX := Lib.hid htx
 have HR : Hid (jr = .ok tx) := Lib.hid (by rw [← HJ.out,← htx];unfold fldT;rw [if_neg (by decide),if_neg (by decide),if_pos rfl];rfl)
 clear htx HJ
 go_enter Tryz.func147,Tryz.ntmps147
 go_wp2_with (go_at_call 219;refine (flagged_as HX HN4 Ab cb _ l4 h4 s4.out).mono ?_;rintro e w3 ⟨rfl,hb3⟩)
 go_ret2
 exact ⟨by rw [HR.out];exact rfl,HB.out.trans (hb3.mono HB.out.size)⟩
set_option maxRecDepth 20000 in
theorem wordof_S (o : Opp) (Ad Ac Af Ab : Option Addr) (cd cc cf cb : Nat) (kvs : List Value) (w : World) (hE : Env w) (hT : Tabs w) (hL : LimO o)
  (hs : ShOp w o (.slice Ad o.data.length cd) (.slice Ac o.chs.length cc) (.slice Af o.fls.length cf) (.slice Ab o.keep.length cb) kvs) :
  Calls Tryz.prog 147 #[.agg (opC o (.slice Ad o.data.length cd) (.slice Ac o.chs.length cc) (.slice Af o.fls.length cf) (.slice Ab o.keep.length cb)),.int .i32 83] w fun e w' => TextR (joined (fldT o 83)) e ∧ Below w.heap.size w w' := by
 obtain ⟨ko,a,k,t,x,link,data,sec,nano,blk,wid,chs,fls,keep⟩ := o
 obtain ⟨l0,l1,l2,l3,l4,l5⟩ := hL
 obtain ⟨⟨_,_,e1,h1,s1⟩,⟨_,_,e2,h2,s2⟩,⟨_,_,e3,h3,s3⟩,⟨_,_,e4,h4,s4⟩⟩ := hs
 simp only [Value.slice.injEq,true_and] at e1 e2 e3 e4
 simp only at l0 l1 l2 l3 l4 l5 h1 h2 h3 h4 s1 s2 s3 s4
 obtain ⟨rfl,rfl⟩ := e1
 obtain ⟨rfl,rfl⟩ := e2
 obtain ⟨rfl,rfl⟩ := e3
 obtain ⟨rfl,rfl⟩ := e4
 have hbx : Below w.heap.size w (w.alloc (.cells (opC ⟨ko,a,k,t,x,link,data,sec,nano,blk,wid,chs,fls,keep⟩ (.slice Ad data.length cd) (.slice Ac chs.length cc) (.slice Af fls.length cf) (.slice Ab keep.length cb)) 108)) := one w _
 have s1 := Lib.hid (s1.on hbx)
 have s2 := Lib.hid (s2.on hbx)
 have s3 := Lib.hid (s3.on hbx)
 have s4 := Lib.hid (s4.on hbx)
 have HE := Lib.hid (hE.on hbx)
 have HT := Lib.hid (hT.on hbx)
 obtain ⟨N1,n1⟩ : ∃ n,data.length = n := ⟨_,rfl⟩
 obtain ⟨N2,n2⟩ : ∃ n,chs.length = n := ⟨_,rfl⟩
 obtain ⟨N3,n3⟩ : ∃ n,fls.length = n := ⟨_,rfl⟩
 obtain ⟨N4,n4⟩ : ∃ n,keep.length = n := ⟨_,rfl⟩
 rw [n1,n2,n3,n4] at s1 s2 s3 s4 HE HT hbx
 rw [n1] at l1 h1
 rw [n2] at l2 h2
 rw [n3] at l3 h3
 rw [n4] at l4 h4
 rw [n1,n2,n3,n4]
 have HN1 := Lib.hid n1
 have HN2 := Lib.hid n2
 have HN3 := Lib.hid n3
 have HN4 := Lib.hid n4
 have HB := Lib.hid hbx
 clear n1 n2 n3 n4 hbx hE hT
 obtain ⟨jr,hjr⟩ : ∃ r,joined (fldT ⟨ko,a,k,t,x,link,data,sec,nano,blk,wid,chs,fls,keep⟩ 83) = r := ⟨_,rfl⟩
 rw [hjr]
 have HJ := Lib.hid hjr
 clear hjr
 simp only [opC]
 simp only [opC] at s1 s2 s3 s4 HE HT HB
 obtain ⟨b,hb⟩ : ∃ b,vld sec nano = b := ⟨_,rfl⟩
 have HV := Lib.hid hb
 cases b with
 | false =>
  have HR : Hid (jr = .error 60) := Lib.hid (by rw [← HJ.out];unfold fldT;rw [if_neg (by decide),if_pos rfl,if_neg (by simp only [hb];decide)];rfl)
  clear hb HJ
  go_enter Tryz.func147,Tryz.ntmps147
  go_wp2_with (go_at_call 217;refine (svalid_as HV l0 _).mono ?_;rintro e w3 ⟨rfl,hb3⟩)
  go_ret2
  exact ⟨by rw [HR.out];exact rfl,HB.out.trans (hb3.mono HB.out.size)⟩
 | true =>
  obtain ⟨tx,htx⟩ : ∃ t,prt sec nano = t := ⟨_,rfl⟩
  have HX := Lib.hid htx
  have HR : Hid (jr = .ok tx) := Lib.hid (by rw [← HJ.out,← htx];unfold fldT;rw [if_neg (by decide),if_pos rfl,if_pos hb];rfl)
  clear htx HJ hb
  go_enter Tryz.func147,Tryz.ntmps147
  go_wp2_with (first
   | (go_at_call 217;refine (svalid_as HV l0 _).mono ?_;rintro e w3 ⟨rfl,hb3⟩;have c7 := keepc hb3 (b := w.heap.size) (o := 7) (v := .int .i64 sec) (by go_simp);have c8 := keepc hb3 (b := w.heap.size) (o := 8) (v := .int .i64 nano) (by go_simp))
   | (go_at_call 218;refine (sprint_as HX HV l0 _ (HE.out.on hb3)).mono ?_;rintro e w4 ⟨rfl,hb4⟩))
  go_ret2
  exact ⟨by rw [HR.out];exact rfl,(HB.out.trans (hb3.mono HB.out.size)).trans (hb4.mono (HB.out.trans (hb3.mono HB.out.size)).size)⟩
set_option maxRecDepth 20000 in
theorem wordof_F (o : Opp) (Ad Ac Af Ab : Option Addr) (cd cc cf cb : Nat) (kvs : List Value) (w : World) (hE : Env w) (hT : Tabs w) (hL : LimO o)
  (hs : ShOp w o (.slice Ad o.data.length cd) (.slice Ac o.chs.length cc) (.slice Af o.fls.length cf) (.slice Ab o.keep.length cb) kvs) :
  Calls Tryz.prog 147 #[.agg (opC o (.slice Ad o.data.length cd) (.slice Ac o.chs.length cc) (.slice Af o.fls.length cf) (.slice Ab o.keep.length cb)),.int .i32 70] w fun e w' => TextR (joined (fldT o 70)) e ∧ Below w.heap.size w w' := by
 obtain ⟨ko,a,k,t,x,link,data,sec,nano,blk,wid,chs,fls,keep⟩ := o
 obtain ⟨l0,l1,l2,l3,l4,l5⟩ := hL
 obtain ⟨⟨_,_,e1,h1,s1⟩,⟨_,_,e2,h2,s2⟩,⟨_,_,e3,h3,s3⟩,⟨_,_,e4,h4,s4⟩⟩ := hs
 simp only [Value.slice.injEq,true_and] at e1 e2 e3 e4
 simp only at l0 l1 l2 l3 l4 l5 h1 h2 h3 h4 s1 s2 s3 s4
 obtain ⟨rfl,rfl⟩ := e1
 obtain ⟨rfl,rfl⟩ := e2
 obtain ⟨rfl,rfl⟩ := e3
 obtain ⟨rfl,rfl⟩ := e4
 have hbx : Below w.heap.size w (w.alloc (.cells (opC ⟨ko,a,k,t,x,link,data,sec,nano,blk,wid,chs,fls,keep⟩ (.slice Ad data.length cd) (.slice Ac chs.length cc) (.slice Af fls.length cf) (.slice Ab keep.length cb)) 108)) := one w _
 have s1 := Lib.hid (s1.on hbx)
 have s2 := Lib.hid (s2.on hbx)
 have s3 := Lib.hid (s3.on hbx)
 have s4 := Lib.hid (s4.on hbx)
 have HE := Lib.hid (hE.on hbx)
 have HT := Lib.hid (hT.on hbx)
 obtain ⟨N1,n1⟩ : ∃ n,data.length = n := ⟨_,rfl⟩
 obtain ⟨N2,n2⟩ : ∃ n,chs.length = n := ⟨_,rfl⟩
 obtain ⟨N3,n3⟩ : ∃ n,fls.length = n := ⟨_,rfl⟩
 obtain ⟨N4,n4⟩ : ∃ n,keep.length = n := ⟨_,rfl⟩
 rw [n1,n2,n3,n4] at s1 s2 s3 s4 HE HT hbx
 rw [n1] at l1 h1
 rw [n2] at l2 h2
 rw [n3] at l3 h3
 rw [n4] at l4 h4
 rw [n1,n2,n3,n4]
 have HN1 := Lib.hid n1
 have HN2 := Lib.hid n2
 have HN3 := Lib.hid n3
 have HN4 := Lib.hid n4
 have HB := Lib.hid hbx
 clear n1 n2 n3 n4 hbx hE hT
 obtain ⟨jr,hjr⟩ : ∃ r,joined (fldT ⟨ko,a,k,t,x,link,data,sec,nano,blk,wid,chs,fls,keep⟩ 70) = r := ⟨_,rfl⟩
 rw [hjr]
 have HJ := Lib.hid hjr
 clear hjr
 simp only [opC]
 simp only [opC] at s1 s2 s3 s4 HE HT HB
 have HR : Hid (joined (fltsT fls) = jr) := Lib.hid (by rw [← HJ.out];unfold fldT;rw [if_neg (by decide),if_neg (by decide),if_neg (by decide),if_pos rfl])
 clear HJ
 cases jr with
 | ok tx =>
  go_enter Tryz.func147,Tryz.ntmps147
  go_wp2_with (go_at_call 220;refine (faultsof_as HR HN3 Af cf _ HE.out l3 h3 s3.out).mono ?_;rintro e w3 ⟨hr,hb3⟩;have hr2 : e = .returned (.tuple #[.string ⟨tx.toArray⟩,.int .i64 0]) := hr;subst hr2;clear hr)
  go_ret2
  exact ⟨rfl,HB.out.trans (hb3.mono HB.out.size)⟩
 | error z =>
  go_enter Tryz.func147,Tryz.ntmps147
  go_wp2_with (go_at_call 220;refine (faultsof_as HR HN3 Af cf _ HE.out l3 h3 s3.out).mono ?_;rintro e w3 ⟨hr,hb3⟩;have hr2 : e = .returned (.tuple #[.string ⟨#[]⟩,.int .i64 z]) := hr;subst hr2;clear hr)
  go_ret2
  exact ⟨rfl,HB.out.trans (hb3.mono HB.out.size)⟩
set_option maxRecDepth 20000 in
theorem wordof_C (o : Opp) (Ad Ac Af Ab : Option Addr) (cd cc cf cb : Nat) (kvs : List Value) (w : World) (hE : Env w) (hT : Tabs w) (hL : LimO o)
  (hs : ShOp w o (.slice Ad o.data.length cd) (.slice Ac o.chs.length cc) (.slice Af o.fls.length cf) (.slice Ab o.keep.length cb) kvs) :
  Calls Tryz.prog 147 #[.agg (opC o (.slice Ad o.data.length cd) (.slice Ac o.chs.length cc) (.slice Af o.fls.length cf) (.slice Ab o.keep.length cb)),.int .i32 67] w fun e w' => TextR (joined (fldT o 67)) e ∧ Below w.heap.size w w' := by
 obtain ⟨ko,a,k,t,x,link,data,sec,nano,blk,wid,chs,fls,keep⟩ := o
 obtain ⟨l0,l1,l2,l3,l4,l5⟩ := hL
 obtain ⟨⟨_,_,e1,h1,s1⟩,⟨_,_,e2,h2,s2⟩,⟨_,_,e3,h3,s3⟩,⟨_,_,e4,h4,s4⟩⟩ := hs
 simp only [Value.slice.injEq,true_and] at e1 e2 e3 e4
 simp only at l0 l1 l2 l3 l4 l5 h1 h2 h3 h4 s1 s2 s3 s4
 obtain ⟨rfl,rfl⟩ := e1
 obtain ⟨rfl,rfl⟩ := e2
 obtain ⟨rfl,rfl⟩ := e3
 obtain ⟨rfl,rfl⟩ := e4
 have hbx : Below w.heap.size w (w.alloc (.cells (opC ⟨ko,a,k,t,x,link,data,sec,nano,blk,wid,chs,fls,keep⟩ (.slice Ad data.length cd) (.slice Ac chs.length cc) (.slice Af fls.length cf) (.slice Ab keep.length cb)) 108)) := one w _
 have s1 := Lib.hid (s1.on hbx)
 have s2 := Lib.hid (s2.on hbx)
 have s3 := Lib.hid (s3.on hbx)
 have s4 := Lib.hid (s4.on hbx)
 have HE := Lib.hid (hE.on hbx)
 have HT := Lib.hid (hT.on hbx)
 obtain ⟨N1,n1⟩ : ∃ n,data.length = n := ⟨_,rfl⟩
 obtain ⟨N2,n2⟩ : ∃ n,chs.length = n := ⟨_,rfl⟩
 obtain ⟨N3,n3⟩ : ∃ n,fls.length = n := ⟨_,rfl⟩
 obtain ⟨N4,n4⟩ : ∃ n,keep.length = n := ⟨_,rfl⟩
 rw [n1,n2,n3,n4] at s1 s2 s3 s4 HE HT hbx
 rw [n1] at l1 h1
 rw [n2] at l2 h2
 rw [n3] at l3 h3
 rw [n4] at l4 h4
 rw [n1,n2,n3,n4]
 have HN1 := Lib.hid n1
 have HN2 := Lib.hid n2
 have HN3 := Lib.hid n3
 have HN4 := Lib.hid n4
 have HB := Lib.hid hbx
 clear n1 n2 n3 n4 hbx hE hT
 obtain ⟨jr,hjr⟩ : ∃ r,joined (fldT ⟨ko,a,k,t,x,link,data,sec,nano,blk,wid,chs,fls,keep⟩ 67) = r := ⟨_,rfl⟩
 rw [hjr]
 have HJ := Lib.hid hjr
 clear hjr
 simp only [opC]
 simp only [opC] at s1 s2 s3 s4 HE HT HB
 have HR : Hid (joined (chgsT chs) = jr) := Lib.hid (by rw [← HJ.out];unfold fldT;rw [if_neg (by decide),if_neg (by decide),if_neg (by decide),if_neg (by decide),if_pos rfl])
 clear HJ
 cases jr with
 | ok tx =>
  go_enter Tryz.func147,Tryz.ntmps147
  go_wp2_with (go_at_call 15;refine (printc_as HR HN2 Ac cc _ HE.out HT.out l2 h2 s2.out l5).mono ?_;rintro e w3 ⟨hr,hb3⟩;have hr2 : e = .returned (.tuple #[.string ⟨tx.toArray⟩,.int .i64 0]) := hr;subst hr2;clear hr)
  go_ret2
  exact ⟨rfl,HB.out.trans (hb3.mono HB.out.size)⟩
 | error z =>
  go_enter Tryz.func147,Tryz.ntmps147
  go_wp2_with (go_at_call 15;refine (printc_as HR HN2 Ac cc _ HE.out HT.out l2 h2 s2.out l5).mono ?_;rintro e w3 ⟨hr,hb3⟩;have hr2 : e = .returned (.tuple #[.string ⟨#[]⟩,.int .i64 z]) := hr;subst hr2;clear hr)
  go_ret2
  exact ⟨rfl,HB.out.trans (hb3.mono HB.out.size)⟩
set_option maxRecDepth 20000 in
theorem wordof_65 (o : Opp) (Ad Ac Af Ab : Option Addr) (cd cc cf cb : Nat) (kvs : List Value) (w : World) (hE : Env w) (hT : Tabs w) (hL : LimO o)
  (hs : ShOp w o (.slice Ad o.data.length cd) (.slice Ac o.chs.length cc) (.slice Af o.fls.length cf) (.slice Ab o.keep.length cb) kvs) :
  Calls Tryz.prog 147 #[.agg (opC o (.slice Ad o.data.length cd) (.slice Ac o.chs.length cc) (.slice Af o.fls.length cf) (.slice Ab o.keep.length cb)),.int .i32 65] w fun e w' => TextR (joined (fldT o 65)) e ∧ Below w.heap.size w w' := by
 obtain ⟨ko,a,k,t,x,link,data,sec,nano,blk,wid,chs,fls,keep⟩ := o
 obtain ⟨l0,l1,l2,l3,l4,l5⟩ := hL
 obtain ⟨⟨_,_,e1,h1,s1⟩,⟨_,_,e2,h2,s2⟩,⟨_,_,e3,h3,s3⟩,⟨_,_,e4,h4,s4⟩⟩ := hs
 simp only [Value.slice.injEq,true_and] at e1 e2 e3 e4
 simp only at l0 l1 l2 l3 l4 l5 h1 h2 h3 h4 s1 s2 s3 s4
 obtain ⟨rfl,rfl⟩ := e1
 obtain ⟨rfl,rfl⟩ := e2
 obtain ⟨rfl,rfl⟩ := e3
 obtain ⟨rfl,rfl⟩ := e4
 have hbx : Below w.heap.size w (w.alloc (.cells (opC ⟨ko,a,k,t,x,link,data,sec,nano,blk,wid,chs,fls,keep⟩ (.slice Ad data.length cd) (.slice Ac chs.length cc) (.slice Af fls.length cf) (.slice Ab keep.length cb)) 108)) := one w _
 have s1 := Lib.hid (s1.on hbx)
 have s2 := Lib.hid (s2.on hbx)
 have s3 := Lib.hid (s3.on hbx)
 have s4 := Lib.hid (s4.on hbx)
 have HE := Lib.hid (hE.on hbx)
 have HT := Lib.hid (hT.on hbx)
 obtain ⟨N1,n1⟩ : ∃ n,data.length = n := ⟨_,rfl⟩
 obtain ⟨N2,n2⟩ : ∃ n,chs.length = n := ⟨_,rfl⟩
 obtain ⟨N3,n3⟩ : ∃ n,fls.length = n := ⟨_,rfl⟩
 obtain ⟨N4,n4⟩ : ∃ n,keep.length = n := ⟨_,rfl⟩
 rw [n1,n2,n3,n4] at s1 s2 s3 s4 HE HT hbx
 rw [n1] at l1 h1
 rw [n2] at l2 h2
 rw [n3] at l3 h3
 rw [n4] at l4 h4
 rw [n1,n2,n3,n4]
 have HN1 := Lib.hid n1
 have HN2 := Lib.hid n2
 have HN3 := Lib.hid n3
 have HN4 := Lib.hid n4
 have HB := Lib.hid hbx
 clear n1 n2 n3 n4 hbx hE hT
 obtain ⟨jr,hjr⟩ : ∃ r,joined (fldT ⟨ko,a,k,t,x,link,data,sec,nano,blk,wid,chs,fls,keep⟩ 65) = r := ⟨_,rfl⟩
 rw [hjr]
 have HJ := Lib.hid hjr
 clear hjr
 simp only [opC]
 simp only [opC] at s1 s2 s3 s4 HE HT HB
 have HR : Hid (jr = if numOk a = true then .ok (decW a) else .error 223) := Lib.hid (by
  rw [← HJ.out];unfold fldT;rw [if_neg (by decide),if_neg (by decide),if_neg (by decide),if_neg (by decide),if_neg (by decide)]
  show joined (if numOk a = true then _ else _) = _
  cases numOk a <;> rfl)
 clear HJ
 obtain ⟨b,hb⟩ : ∃ b,numOk a = b := ⟨_,rfl⟩
 have HV := Lib.hid hb
 rw [hb] at HR
 clear hb
 cases b with
 | false =>
  go_enter Tryz.func147,Tryz.ntmps147
  go_wp2_with (first
   | (go_at_call 167;refine (place_any w.heap.size 65 (by unfold isNum;simp) _).mono ?_;rintro e w3 ⟨rfl,hw3⟩;rw [hw3];clear hw3;simp only [show offN 65 = 1 from rfl])
   | (go_at_call 54;refine (isnum_as HV _).mono ?_;rintro e w9 ⟨rfl,hw9⟩;rw [hw9];clear hw9))
  go_ret2
  exact ⟨by rw [HR.out];exact rfl,HB.out⟩
 | true =>
  obtain ⟨tx,htx⟩ : ∃ q,decW a = q := ⟨_,rfl⟩
  rw [htx] at HR
  have HX := Lib.hid htx
  clear htx
  go_enter Tryz.func147,Tryz.ntmps147
  go_wp2_with (first
   | (go_at_call 167;refine (place_any w.heap.size 65 (by unfold isNum;simp) _).mono ?_;rintro e w3 ⟨rfl,hw3⟩;rw [hw3];clear hw3;simp only [show offN 65 = 1 from rfl])
   | (go_at_call 54;refine (isnum_as HV _).mono ?_;rintro e w9 ⟨rfl,hw9⟩;rw [hw9];clear hw9)
   | (go_at_call 55;refine (itoa_as HX HV _ HE.out).mono ?_;rintro e w4 ⟨rfl,hb4⟩))
  go_ret2
  exact ⟨by rw [HR.out];exact rfl,HB.out.trans (hb4.mono HB.out.size)⟩
set_option maxRecDepth 20000 in
theorem wordof_75 (o : Opp) (Ad Ac Af Ab : Option Addr) (cd cc cf cb : Nat) (kvs : List Value) (w : World) (hE : Env w) (hT : Tabs w) (hL : LimO o)
  (hs : ShOp w o (.slice Ad o.data.length cd) (.slice Ac o.chs.length cc) (.slice Af o.fls.length cf) (.slice Ab o.keep.length cb) kvs) :
  Calls Tryz.prog 147 #[.agg (opC o (.slice Ad o.data.length cd) (.slice Ac o.chs.length cc) (.slice Af o.fls.length cf) (.slice Ab o.keep.length cb)),.int .i32 75] w fun e w' => TextR (joined (fldT o 75)) e ∧ Below w.heap.size w w' := by
 obtain ⟨ko,a,k,t,x,link,data,sec,nano,blk,wid,chs,fls,keep⟩ := o
 obtain ⟨l0,l1,l2,l3,l4,l5⟩ := hL
 obtain ⟨⟨_,_,e1,h1,s1⟩,⟨_,_,e2,h2,s2⟩,⟨_,_,e3,h3,s3⟩,⟨_,_,e4,h4,s4⟩⟩ := hs
 simp only [Value.slice.injEq,true_and] at e1 e2 e3 e4
 simp only at l0 l1 l2 l3 l4 l5 h1 h2 h3 h4 s1 s2 s3 s4
 obtain ⟨rfl,rfl⟩ := e1
 obtain ⟨rfl,rfl⟩ := e2
 obtain ⟨rfl,rfl⟩ := e3
 obtain ⟨rfl,rfl⟩ := e4
 have hbx : Below w.heap.size w (w.alloc (.cells (opC ⟨ko,a,k,t,x,link,data,sec,nano,blk,wid,chs,fls,keep⟩ (.slice Ad data.length cd) (.slice Ac chs.length cc) (.slice Af fls.length cf) (.slice Ab keep.length cb)) 108)) := one w _
 have s1 := Lib.hid (s1.on hbx)
 have s2 := Lib.hid (s2.on hbx)
 have s3 := Lib.hid (s3.on hbx)
 have s4 := Lib.hid (s4.on hbx)
 have HE := Lib.hid (hE.on hbx)
 have HT := Lib.hid (hT.on hbx)
 obtain ⟨N1,n1⟩ : ∃ n,data.length = n := ⟨_,rfl⟩
 obtain ⟨N2,n2⟩ : ∃ n,chs.length = n := ⟨_,rfl⟩
 obtain ⟨N3,n3⟩ : ∃ n,fls.length = n := ⟨_,rfl⟩
 obtain ⟨N4,n4⟩ : ∃ n,keep.length = n := ⟨_,rfl⟩
 rw [n1,n2,n3,n4] at s1 s2 s3 s4 HE HT hbx
 rw [n1] at l1 h1
 rw [n2] at l2 h2
 rw [n3] at l3 h3
 rw [n4] at l4 h4
 rw [n1,n2,n3,n4]
 have HN1 := Lib.hid n1
 have HN2 := Lib.hid n2
 have HN3 := Lib.hid n3
 have HN4 := Lib.hid n4
 have HB := Lib.hid hbx
 clear n1 n2 n3 n4 hbx hE hT
 obtain ⟨jr,hjr⟩ : ∃ r,joined (fldT ⟨ko,a,k,t,x,link,data,sec,nano,blk,wid,chs,fls,keep⟩ 75) = r := ⟨_,rfl⟩
 rw [hjr]
 have HJ := Lib.hid hjr
 clear hjr
 simp only [opC]
 simp only [opC] at s1 s2 s3 s4 HE HT HB
 have HR : Hid (jr = if numOk k = true then .ok (decW k) else .error 223) := Lib.hid (by
  rw [← HJ.out];unfold fldT;rw [if_neg (by decide),if_neg (by decide),if_neg (by decide),if_neg (by decide),if_neg (by decide)]
  show joined (if numOk k = true then _ else _) = _
  cases numOk k <;> rfl)
 clear HJ
 obtain ⟨b,hb⟩ : ∃ b,numOk k = b := ⟨_,rfl⟩
 have HV := Lib.hid hb
 rw [hb] at HR
 clear hb
 cases b with
 | false =>
  go_enter Tryz.func147,Tryz.ntmps147
  go_wp2_with (first
   | (go_at_call 167;refine (place_any w.heap.size 75 (by unfold isNum;simp) _).mono ?_;rintro e w3 ⟨rfl,hw3⟩;rw [hw3];clear hw3;simp only [show offN 75 = 2 from rfl])
   | (go_at_call 54;refine (isnum_as HV _).mono ?_;rintro e w9 ⟨rfl,hw9⟩;rw [hw9];clear hw9))
  go_ret2
  exact ⟨by rw [HR.out];exact rfl,HB.out⟩
 | true =>
  obtain ⟨tx,htx⟩ : ∃ q,decW k = q := ⟨_,rfl⟩
  rw [htx] at HR
  have HX := Lib.hid htx
  clear htx
  go_enter Tryz.func147,Tryz.ntmps147
  go_wp2_with (first
   | (go_at_call 167;refine (place_any w.heap.size 75 (by unfold isNum;simp) _).mono ?_;rintro e w3 ⟨rfl,hw3⟩;rw [hw3];clear hw3;simp only [show offN 75 = 2 from rfl])
   | (go_at_call 54;refine (isnum_as HV _).mono ?_;rintro e w9 ⟨rfl,hw9⟩;rw [hw9];clear hw9)
   | (go_at_call 55;refine (itoa_as HX HV _ HE.out).mono ?_;rintro e w4 ⟨rfl,hb4⟩))
  go_ret2
  exact ⟨by rw [HR.out];exact rfl,HB.out.trans (hb4.mono HB.out.size)⟩
set_option maxRecDepth 20000 in
theorem wordof_76 (o : Opp) (Ad Ac Af Ab : Option Addr) (cd cc cf cb : Nat) (kvs : List Value) (w : World) (hE : Env w) (hT : Tabs w) (hL : LimO o)
  (hs : ShOp w o (.slice Ad o.data.length cd) (.slice Ac o.chs.length cc) (.slice Af o.fls.length cf) (.slice Ab o.keep.length cb) kvs) :
  Calls Tryz.prog 147 #[.agg (opC o (.slice Ad o.data.length cd) (.slice Ac o.chs.length cc) (.slice Af o.fls.length cf) (.slice Ab o.keep.length cb)),.int .i32 76] w fun e w' => TextR (joined (fldT o 76)) e ∧ Below w.heap.size w w' := by
 obtain ⟨ko,a,k,t,x,link,data,sec,nano,blk,wid,chs,fls,keep⟩ := o
 obtain ⟨l0,l1,l2,l3,l4,l5⟩ := hL
 obtain ⟨⟨_,_,e1,h1,s1⟩,⟨_,_,e2,h2,s2⟩,⟨_,_,e3,h3,s3⟩,⟨_,_,e4,h4,s4⟩⟩ := hs
 simp only [Value.slice.injEq,true_and] at e1 e2 e3 e4
 simp only at l0 l1 l2 l3 l4 l5 h1 h2 h3 h4 s1 s2 s3 s4
 obtain ⟨rfl,rfl⟩ := e1
 obtain ⟨rfl,rfl⟩ := e2
 obtain ⟨rfl,rfl⟩ := e3
 obtain ⟨rfl,rfl⟩ := e4
 have hbx : Below w.heap.size w (w.alloc (.cells (opC ⟨ko,a,k,t,x,link,data,sec,nano,blk,wid,chs,fls,keep⟩ (.slice Ad data.length cd) (.slice Ac chs.length cc) (.slice Af fls.length cf) (.slice Ab keep.length cb)) 108)) := one w _
 have s1 := Lib.hid (s1.on hbx)
 have s2 := Lib.hid (s2.on hbx)
 have s3 := Lib.hid (s3.on hbx)
 have s4 := Lib.hid (s4.on hbx)
 have HE := Lib.hid (hE.on hbx)
 have HT := Lib.hid (hT.on hbx)
 obtain ⟨N1,n1⟩ : ∃ n,data.length = n := ⟨_,rfl⟩
 obtain ⟨N2,n2⟩ : ∃ n,chs.length = n := ⟨_,rfl⟩
 obtain ⟨N3,n3⟩ : ∃ n,fls.length = n := ⟨_,rfl⟩
 obtain ⟨N4,n4⟩ : ∃ n,keep.length = n := ⟨_,rfl⟩
 rw [n1,n2,n3,n4] at s1 s2 s3 s4 HE HT hbx
 rw [n1] at l1 h1
 rw [n2] at l2 h2
 rw [n3] at l3 h3
 rw [n4] at l4 h4
 rw [n1,n2,n3,n4]
 have HN1 := Lib.hid n1
 have HN2 := Lib.hid n2
 have HN3 := Lib.hid n3
 have HN4 := Lib.hid n4
 have HB := Lib.hid hbx
 clear n1 n2 n3 n4 hbx hE hT
 obtain ⟨jr,hjr⟩ : ∃ r,joined (fldT ⟨ko,a,k,t,x,link,data,sec,nano,blk,wid,chs,fls,keep⟩ 76) = r := ⟨_,rfl⟩
 rw [hjr]
 have HJ := Lib.hid hjr
 clear hjr
 simp only [opC]
 simp only [opC] at s1 s2 s3 s4 HE HT HB
 have HR : Hid (jr = if numOk link = true then .ok (decW link) else .error 223) := Lib.hid (by
  rw [← HJ.out];unfold fldT;rw [if_neg (by decide),if_neg (by decide),if_neg (by decide),if_neg (by decide),if_neg (by decide)]
  show joined (if numOk link = true then _ else _) = _
  cases numOk link <;> rfl)
 clear HJ
 obtain ⟨b,hb⟩ : ∃ b,numOk link = b := ⟨_,rfl⟩
 have HV := Lib.hid hb
 rw [hb] at HR
 clear hb
 cases b with
 | false =>
  go_enter Tryz.func147,Tryz.ntmps147
  go_wp2_with (first
   | (go_at_call 167;refine (place_any w.heap.size 76 (by unfold isNum;simp) _).mono ?_;rintro e w3 ⟨rfl,hw3⟩;rw [hw3];clear hw3;simp only [show offN 76 = 5 from rfl])
   | (go_at_call 54;refine (isnum_as HV _).mono ?_;rintro e w9 ⟨rfl,hw9⟩;rw [hw9];clear hw9))
  go_ret2
  exact ⟨by rw [HR.out];exact rfl,HB.out⟩
 | true =>
  obtain ⟨tx,htx⟩ : ∃ q,decW link = q := ⟨_,rfl⟩
  rw [htx] at HR
  have HX := Lib.hid htx
  clear htx
  go_enter Tryz.func147,Tryz.ntmps147
  go_wp2_with (first
   | (go_at_call 167;refine (place_any w.heap.size 76 (by unfold isNum;simp) _).mono ?_;rintro e w3 ⟨rfl,hw3⟩;rw [hw3];clear hw3;simp only [show offN 76 = 5 from rfl])
   | (go_at_call 54;refine (isnum_as HV _).mono ?_;rintro e w9 ⟨rfl,hw9⟩;rw [hw9];clear hw9)
   | (go_at_call 55;refine (itoa_as HX HV _ HE.out).mono ?_;rintro e w4 ⟨rfl,hb4⟩))
  go_ret2
  exact ⟨by rw [HR.out];exact rfl,HB.out.trans (hb4.mono HB.out.size)⟩
set_option maxRecDepth 20000 in
theorem wordof_84 (o : Opp) (Ad Ac Af Ab : Option Addr) (cd cc cf cb : Nat) (kvs : List Value) (w : World) (hE : Env w) (hT : Tabs w) (hL : LimO o)
  (hs : ShOp w o (.slice Ad o.data.length cd) (.slice Ac o.chs.length cc) (.slice Af o.fls.length cf) (.slice Ab o.keep.length cb) kvs) :
  Calls Tryz.prog 147 #[.agg (opC o (.slice Ad o.data.length cd) (.slice Ac o.chs.length cc) (.slice Af o.fls.length cf) (.slice Ab o.keep.length cb)),.int .i32 84] w fun e w' => TextR (joined (fldT o 84)) e ∧ Below w.heap.size w w' := by
 obtain ⟨ko,a,k,t,x,link,data,sec,nano,blk,wid,chs,fls,keep⟩ := o
 obtain ⟨l0,l1,l2,l3,l4,l5⟩ := hL
 obtain ⟨⟨_,_,e1,h1,s1⟩,⟨_,_,e2,h2,s2⟩,⟨_,_,e3,h3,s3⟩,⟨_,_,e4,h4,s4⟩⟩ := hs
 simp only [Value.slice.injEq,true_and] at e1 e2 e3 e4
 simp only at l0 l1 l2 l3 l4 l5 h1 h2 h3 h4 s1 s2 s3 s4
 obtain ⟨rfl,rfl⟩ := e1
 obtain ⟨rfl,rfl⟩ := e2
 obtain ⟨rfl,rfl⟩ := e3
 obtain ⟨rfl,rfl⟩ := e4
 have hbx : Below w.heap.size w (w.alloc (.cells (opC ⟨ko,a,k,t,x,link,data,sec,nano,blk,wid,chs,fls,keep⟩ (.slice Ad data.length cd) (.slice Ac chs.length cc) (.slice Af fls.length cf) (.slice Ab keep.length cb)) 108)) := one w _
 have s1 := Lib.hid (s1.on hbx)
 have s2 := Lib.hid (s2.on hbx)
 have s3 := Lib.hid (s3.on hbx)
 have s4 := Lib.hid (s4.on hbx)
 have HE := Lib.hid (hE.on hbx)
 have HT := Lib.hid (hT.on hbx)
 obtain ⟨N1,n1⟩ : ∃ n,data.length = n := ⟨_,rfl⟩
 obtain ⟨N2,n2⟩ : ∃ n,chs.length = n := ⟨_,rfl⟩
 obtain ⟨N3,n3⟩ : ∃ n,fls.length = n := ⟨_,rfl⟩
 obtain ⟨N4,n4⟩ : ∃ n,keep.length = n := ⟨_,rfl⟩
 rw [n1,n2,n3,n4] at s1 s2 s3 s4 HE HT hbx
 rw [n1] at l1 h1
 rw [n2] at l2 h2
 rw [n3] at l3 h3
 rw [n4] at l4 h4
 rw [n1,n2,n3,n4]
 have HN1 := Lib.hid n1
 have HN2 := Lib.hid n2
 have HN3 := Lib.hid n3
 have HN4 := Lib.hid n4
 have HB := Lib.hid hbx
 clear n1 n2 n3 n4 hbx hE hT
 obtain ⟨jr,hjr⟩ : ∃ r,joined (fldT ⟨ko,a,k,t,x,link,data,sec,nano,blk,wid,chs,fls,keep⟩ 84) = r := ⟨_,rfl⟩
 rw [hjr]
 have HJ := Lib.hid hjr
 clear hjr
 simp only [opC]
 simp only [opC] at s1 s2 s3 s4 HE HT HB
 have HR : Hid (jr = if numOk t = true then .ok (decW t) else .error 223) := Lib.hid (by
  rw [← HJ.out];unfold fldT;rw [if_neg (by decide),if_neg (by decide),if_neg (by decide),if_neg (by decide),if_neg (by decide)]
  show joined (if numOk t = true then _ else _) = _
  cases numOk t <;> rfl)
 clear HJ
 obtain ⟨b,hb⟩ : ∃ b,numOk t = b := ⟨_,rfl⟩
 have HV := Lib.hid hb
 rw [hb] at HR
 clear hb
 cases b with
 | false =>
  go_enter Tryz.func147,Tryz.ntmps147
  go_wp2_with (first
   | (go_at_call 167;refine (place_any w.heap.size 84 (by unfold isNum;simp) _).mono ?_;rintro e w3 ⟨rfl,hw3⟩;rw [hw3];clear hw3;simp only [show offN 84 = 3 from rfl])
   | (go_at_call 54;refine (isnum_as HV _).mono ?_;rintro e w9 ⟨rfl,hw9⟩;rw [hw9];clear hw9))
  go_ret2
  exact ⟨by rw [HR.out];exact rfl,HB.out⟩
 | true =>
  obtain ⟨tx,htx⟩ : ∃ q,decW t = q := ⟨_,rfl⟩
  rw [htx] at HR
  have HX := Lib.hid htx
  clear htx
  go_enter Tryz.func147,Tryz.ntmps147
  go_wp2_with (first
   | (go_at_call 167;refine (place_any w.heap.size 84 (by unfold isNum;simp) _).mono ?_;rintro e w3 ⟨rfl,hw3⟩;rw [hw3];clear hw3;simp only [show offN 84 = 3 from rfl])
   | (go_at_call 54;refine (isnum_as HV _).mono ?_;rintro e w9 ⟨rfl,hw9⟩;rw [hw9];clear hw9)
   | (go_at_call 55;refine (itoa_as HX HV _ HE.out).mono ?_;rintro e w4 ⟨rfl,hb4⟩))
  go_ret2
  exact ⟨by rw [HR.out];exact rfl,HB.out.trans (hb4.mono HB.out.size)⟩
set_option maxRecDepth 20000 in
theorem wordof_88 (o : Opp) (Ad Ac Af Ab : Option Addr) (cd cc cf cb : Nat) (kvs : List Value) (w : World) (hE : Env w) (hT : Tabs w) (hL : LimO o)
  (hs : ShOp w o (.slice Ad o.data.length cd) (.slice Ac o.chs.length cc) (.slice Af o.fls.length cf) (.slice Ab o.keep.length cb) kvs) :
  Calls Tryz.prog 147 #[.agg (opC o (.slice Ad o.data.length cd) (.slice Ac o.chs.length cc) (.slice Af o.fls.length cf) (.slice Ab o.keep.length cb)),.int .i32 88] w fun e w' => TextR (joined (fldT o 88)) e ∧ Below w.heap.size w w' := by
 obtain ⟨ko,a,k,t,x,link,data,sec,nano,blk,wid,chs,fls,keep⟩ := o
 obtain ⟨l0,l1,l2,l3,l4,l5⟩ := hL
 obtain ⟨⟨_,_,e1,h1,s1⟩,⟨_,_,e2,h2,s2⟩,⟨_,_,e3,h3,s3⟩,⟨_,_,e4,h4,s4⟩⟩ := hs
 simp only [Value.slice.injEq,true_and] at e1 e2 e3 e4
 simp only at l0 l1 l2 l3 l4 l5 h1 h2 h3 h4 s1 s2 s3 s4
 obtain ⟨rfl,rfl⟩ := e1
 obtain ⟨rfl,rfl⟩ := e2
 obtain ⟨rfl,rfl⟩ := e3
 obtain ⟨rfl,rfl⟩ := e4
 have hbx : Below w.heap.size w (w.alloc (.cells (opC ⟨ko,a,k,t,x,link,data,sec,nano,blk,wid,chs,fls,keep⟩ (.slice Ad data.length cd) (.slice Ac chs.length cc) (.slice Af fls.length cf) (.slice Ab keep.length cb)) 108)) := one w _
 have s1 := Lib.hid (s1.on hbx)
 have s2 := Lib.hid (s2.on hbx)
 have s3 := Lib.hid (s3.on hbx)
 have s4 := Lib.hid (s4.on hbx)
 have HE := Lib.hid (hE.on hbx)
 have HT := Lib.hid (hT.on hbx)
 obtain ⟨N1,n1⟩ : ∃ n,data.length = n := ⟨_,rfl⟩
 obtain ⟨N2,n2⟩ : ∃ n,chs.length = n := ⟨_,rfl⟩
 obtain ⟨N3,n3⟩ : ∃ n,fls.length = n := ⟨_,rfl⟩
 obtain ⟨N4,n4⟩ : ∃ n,keep.length = n := ⟨_,rfl⟩
 rw [n1,n2,n3,n4] at s1 s2 s3 s4 HE HT hbx
 rw [n1] at l1 h1
 rw [n2] at l2 h2
 rw [n3] at l3 h3
 rw [n4] at l4 h4
 rw [n1,n2,n3,n4]
 have HN1 := Lib.hid n1
 have HN2 := Lib.hid n2
 have HN3 := Lib.hid n3
 have HN4 := Lib.hid n4
 have HB := Lib.hid hbx
 clear n1 n2 n3 n4 hbx hE hT
 obtain ⟨jr,hjr⟩ : ∃ r,joined (fldT ⟨ko,a,k,t,x,link,data,sec,nano,blk,wid,chs,fls,keep⟩ 88) = r := ⟨_,rfl⟩
 rw [hjr]
 have HJ := Lib.hid hjr
 clear hjr
 simp only [opC]
 simp only [opC] at s1 s2 s3 s4 HE HT HB
 have HR : Hid (jr = if numOk x = true then .ok (decW x) else .error 223) := Lib.hid (by
  rw [← HJ.out];unfold fldT;rw [if_neg (by decide),if_neg (by decide),if_neg (by decide),if_neg (by decide),if_neg (by decide)]
  show joined (if numOk x = true then _ else _) = _
  cases numOk x <;> rfl)
 clear HJ
 obtain ⟨b,hb⟩ : ∃ b,numOk x = b := ⟨_,rfl⟩
 have HV := Lib.hid hb
 rw [hb] at HR
 clear hb
 cases b with
 | false =>
  go_enter Tryz.func147,Tryz.ntmps147
  go_wp2_with (first
   | (go_at_call 167;refine (place_any w.heap.size 88 (by unfold isNum;simp) _).mono ?_;rintro e w3 ⟨rfl,hw3⟩;rw [hw3];clear hw3;simp only [show offN 88 = 4 from rfl])
   | (go_at_call 54;refine (isnum_as HV _).mono ?_;rintro e w9 ⟨rfl,hw9⟩;rw [hw9];clear hw9))
  go_ret2
  exact ⟨by rw [HR.out];exact rfl,HB.out⟩
 | true =>
  obtain ⟨tx,htx⟩ : ∃ q,decW x = q := ⟨_,rfl⟩
  rw [htx] at HR
  have HX := Lib.hid htx
  clear htx
  go_enter Tryz.func147,Tryz.ntmps147
  go_wp2_with (first
   | (go_at_call 167;refine (place_any w.heap.size 88 (by unfold isNum;simp) _).mono ?_;rintro e w3 ⟨rfl,hw3⟩;rw [hw3];clear hw3;simp only [show offN 88 = 4 from rfl])
   | (go_at_call 54;refine (isnum_as HV _).mono ?_;rintro e w9 ⟨rfl,hw9⟩;rw [hw9];clear hw9)
   | (go_at_call 55;refine (itoa_as HX HV _ HE.out).mono ?_;rintro e w4 ⟨rfl,hb4⟩))
  go_ret2
  exact ⟨by rw [HR.out];exact rfl,HB.out.trans (hb4.mono HB.out.size)⟩
set_option maxRecDepth 20000 in
theorem wordof_98 (o : Opp) (Ad Ac Af Ab : Option Addr) (cd cc cf cb : Nat) (kvs : List Value) (w : World) (hE : Env w) (hT : Tabs w) (hL : LimO o)
  (hs : ShOp w o (.slice Ad o.data.length cd) (.slice Ac o.chs.length cc) (.slice Af o.fls.length cf) (.slice Ab o.keep.length cb) kvs) :
  Calls Tryz.prog 147 #[.agg (opC o (.slice Ad o.data.length cd) (.slice Ac o.chs.length cc) (.slice Af o.fls.length cf) (.slice Ab o.keep.length cb)),.int .i32 98] w fun e w' => TextR (joined (fldT o 98)) e ∧ Below w.heap.size w w' := by
 obtain ⟨ko,a,k,t,x,link,data,sec,nano,blk,wid,chs,fls,keep⟩ := o
 obtain ⟨l0,l1,l2,l3,l4,l5⟩ := hL
 obtain ⟨⟨_,_,e1,h1,s1⟩,⟨_,_,e2,h2,s2⟩,⟨_,_,e3,h3,s3⟩,⟨_,_,e4,h4,s4⟩⟩ := hs
 simp only [Value.slice.injEq,true_and] at e1 e2 e3 e4
 simp only at l0 l1 l2 l3 l4 l5 h1 h2 h3 h4 s1 s2 s3 s4
 obtain ⟨rfl,rfl⟩ := e1
 obtain ⟨rfl,rfl⟩ := e2
 obtain ⟨rfl,rfl⟩ := e3
 obtain ⟨rfl,rfl⟩ := e4
 have hbx : Below w.heap.size w (w.alloc (.cells (opC ⟨ko,a,k,t,x,link,data,sec,nano,blk,wid,chs,fls,keep⟩ (.slice Ad data.length cd) (.slice Ac chs.length cc) (.slice Af fls.length cf) (.slice Ab keep.length cb)) 108)) := one w _
 have s1 := Lib.hid (s1.on hbx)
 have s2 := Lib.hid (s2.on hbx)
 have s3 := Lib.hid (s3.on hbx)
 have s4 := Lib.hid (s4.on hbx)
 have HE := Lib.hid (hE.on hbx)
 have HT := Lib.hid (hT.on hbx)
 obtain ⟨N1,n1⟩ : ∃ n,data.length = n := ⟨_,rfl⟩
 obtain ⟨N2,n2⟩ : ∃ n,chs.length = n := ⟨_,rfl⟩
 obtain ⟨N3,n3⟩ : ∃ n,fls.length = n := ⟨_,rfl⟩
 obtain ⟨N4,n4⟩ : ∃ n,keep.length = n := ⟨_,rfl⟩
 rw [n1,n2,n3,n4] at s1 s2 s3 s4 HE HT hbx
 rw [n1] at l1 h1
 rw [n2] at l2 h2
 rw [n3] at l3 h3
 rw [n4] at l4 h4
 rw [n1,n2,n3,n4]
 have HN1 := Lib.hid n1
 have HN2 := Lib.hid n2
 have HN3 := Lib.hid n3
 have HN4 := Lib.hid n4
 have HB := Lib.hid hbx
 clear n1 n2 n3 n4 hbx hE hT
 obtain ⟨jr,hjr⟩ : ∃ r,joined (fldT ⟨ko,a,k,t,x,link,data,sec,nano,blk,wid,chs,fls,keep⟩ 98) = r := ⟨_,rfl⟩
 rw [hjr]
 have HJ := Lib.hid hjr
 clear hjr
 simp only [opC]
 simp only [opC] at s1 s2 s3 s4 HE HT HB
 have HR : Hid (jr = if numOk blk = true then .ok (decW blk) else .error 223) := Lib.hid (by
  rw [← HJ.out];unfold fldT;rw [if_neg (by decide),if_neg (by decide),if_neg (by decide),if_neg (by decide),if_neg (by decide)]
  show joined (if numOk blk = true then _ else _) = _
  cases numOk blk <;> rfl)
 clear HJ
 obtain ⟨b,hb⟩ : ∃ b,numOk blk = b := ⟨_,rfl⟩
 have HV := Lib.hid hb
 rw [hb] at HR
 clear hb
 cases b with
 | false =>
  go_enter Tryz.func147,Tryz.ntmps147
  go_wp2_with (first
   | (go_at_call 167;refine (place_any w.heap.size 98 (by unfold isNum;simp) _).mono ?_;rintro e w3 ⟨rfl,hw3⟩;rw [hw3];clear hw3;simp only [show offN 98 = 9 from rfl])
   | (go_at_call 54;refine (isnum_as HV _).mono ?_;rintro e w9 ⟨rfl,hw9⟩;rw [hw9];clear hw9))
  go_ret2
  exact ⟨by rw [HR.out];exact rfl,HB.out⟩
 | true =>
  obtain ⟨tx,htx⟩ : ∃ q,decW blk = q := ⟨_,rfl⟩
  rw [htx] at HR
  have HX := Lib.hid htx
  clear htx
  go_enter Tryz.func147,Tryz.ntmps147
  go_wp2_with (first
   | (go_at_call 167;refine (place_any w.heap.size 98 (by unfold isNum;simp) _).mono ?_;rintro e w3 ⟨rfl,hw3⟩;rw [hw3];clear hw3;simp only [show offN 98 = 9 from rfl])
   | (go_at_call 54;refine (isnum_as HV _).mono ?_;rintro e w9 ⟨rfl,hw9⟩;rw [hw9];clear hw9)
   | (go_at_call 55;refine (itoa_as HX HV _ HE.out).mono ?_;rintro e w4 ⟨rfl,hb4⟩))
  go_ret2
  exact ⟨by rw [HR.out];exact rfl,HB.out.trans (hb4.mono HB.out.size)⟩
set_option maxRecDepth 20000 in
theorem wordof_119 (o : Opp) (Ad Ac Af Ab : Option Addr) (cd cc cf cb : Nat) (kvs : List Value) (w : World) (hE : Env w) (hT : Tabs w) (hL : LimO o)
  (hs : ShOp w o (.slice Ad o.data.length cd) (.slice Ac o.chs.length cc) (.slice Af o.fls.length cf) (.slice Ab o.keep.length cb) kvs) :
  Calls Tryz.prog 147 #[.agg (opC o (.slice Ad o.data.length cd) (.slice Ac o.chs.length cc) (.slice Af o.fls.length cf) (.slice Ab o.keep.length cb)),.int .i32 119] w fun e w' => TextR (joined (fldT o 119)) e ∧ Below w.heap.size w w' := by
 obtain ⟨ko,a,k,t,x,link,data,sec,nano,blk,wid,chs,fls,keep⟩ := o
 obtain ⟨l0,l1,l2,l3,l4,l5⟩ := hL
 obtain ⟨⟨_,_,e1,h1,s1⟩,⟨_,_,e2,h2,s2⟩,⟨_,_,e3,h3,s3⟩,⟨_,_,e4,h4,s4⟩⟩ := hs
 simp only [Value.slice.injEq,true_and] at e1 e2 e3 e4
 simp only at l0 l1 l2 l3 l4 l5 h1 h2 h3 h4 s1 s2 s3 s4
 obtain ⟨rfl,rfl⟩ := e1
 obtain ⟨rfl,rfl⟩ := e2
 obtain ⟨rfl,rfl⟩ := e3
 obtain ⟨rfl,rfl⟩ := e4
 have hbx : Below w.heap.size w (w.alloc (.cells (opC ⟨ko,a,k,t,x,link,data,sec,nano,blk,wid,chs,fls,keep⟩ (.slice Ad data.length cd) (.slice Ac chs.length cc) (.slice Af fls.length cf) (.slice Ab keep.length cb)) 108)) := one w _
 have s1 := Lib.hid (s1.on hbx)
 have s2 := Lib.hid (s2.on hbx)
 have s3 := Lib.hid (s3.on hbx)
 have s4 := Lib.hid (s4.on hbx)
 have HE := Lib.hid (hE.on hbx)
 have HT := Lib.hid (hT.on hbx)
 obtain ⟨N1,n1⟩ : ∃ n,data.length = n := ⟨_,rfl⟩
 obtain ⟨N2,n2⟩ : ∃ n,chs.length = n := ⟨_,rfl⟩
 obtain ⟨N3,n3⟩ : ∃ n,fls.length = n := ⟨_,rfl⟩
 obtain ⟨N4,n4⟩ : ∃ n,keep.length = n := ⟨_,rfl⟩
 rw [n1,n2,n3,n4] at s1 s2 s3 s4 HE HT hbx
 rw [n1] at l1 h1
 rw [n2] at l2 h2
 rw [n3] at l3 h3
 rw [n4] at l4 h4
 rw [n1,n2,n3,n4]
 have HN1 := Lib.hid n1
 have HN2 := Lib.hid n2
 have HN3 := Lib.hid n3
 have HN4 := Lib.hid n4
 have HB := Lib.hid hbx
 clear n1 n2 n3 n4 hbx hE hT
 obtain ⟨jr,hjr⟩ : ∃ r,joined (fldT ⟨ko,a,k,t,x,link,data,sec,nano,blk,wid,chs,fls,keep⟩ 119) = r := ⟨_,rfl⟩
 rw [hjr]
 have HJ := Lib.hid hjr
 clear hjr
 simp only [opC]
 simp only [opC] at s1 s2 s3 s4 HE HT HB
 have HR : Hid (jr = if numOk wid = true then .ok (decW wid) else .error 223) := Lib.hid (by
  rw [← HJ.out];unfold fldT;rw [if_neg (by decide),if_neg (by decide),if_neg (by decide),if_neg (by decide),if_neg (by decide)]
  show joined (if numOk wid = true then _ else _) = _
  cases numOk wid <;> rfl)
 clear HJ
 obtain ⟨b,hb⟩ : ∃ b,numOk wid = b := ⟨_,rfl⟩
 have HV := Lib.hid hb
 rw [hb] at HR
 clear hb
 cases b with
 | false =>
  go_enter Tryz.func147,Tryz.ntmps147
  go_wp2_with (first
   | (go_at_call 167;refine (place_any w.heap.size 119 (by unfold isNum;simp) _).mono ?_;rintro e w3 ⟨rfl,hw3⟩;rw [hw3];clear hw3;simp only [show offN 119 = 10 from rfl])
   | (go_at_call 54;refine (isnum_as HV _).mono ?_;rintro e w9 ⟨rfl,hw9⟩;rw [hw9];clear hw9))
  go_ret2
  exact ⟨by rw [HR.out];exact rfl,HB.out⟩
 | true =>
  obtain ⟨tx,htx⟩ : ∃ q,decW wid = q := ⟨_,rfl⟩
  rw [htx] at HR
  have HX := Lib.hid htx
  clear htx
  go_enter Tryz.func147,Tryz.ntmps147
  go_wp2_with (first
   | (go_at_call 167;refine (place_any w.heap.size 119 (by unfold isNum;simp) _).mono ?_;rintro e w3 ⟨rfl,hw3⟩;rw [hw3];clear hw3;simp only [show offN 119 = 10 from rfl])
   | (go_at_call 54;refine (isnum_as HV _).mono ?_;rintro e w9 ⟨rfl,hw9⟩;rw [hw9];clear hw9)
   | (go_at_call 55;refine (itoa_as HX HV _ HE.out).mono ?_;rintro e w4 ⟨rfl,hb4⟩))
  go_ret2
  exact ⟨by rw [HR.out];exact rfl,HB.out.trans (hb4.mono HB.out.size)⟩
theorem wordof_any (o : Opp) (dv cv fv bv : Value) (kvs : List Value) (w : World) (hE : Env w) (hT : Tabs w) (hL : LimO o) (hs : ShOp w o dv cv fv bv kvs) (c : UInt8) (hc : c = 72 ∨ c = 83 ∨ c = 66 ∨ c = 70 ∨ c = 67 ∨ isNum c) :
  Calls Tryz.prog 147 #[.agg (opC o dv cv fv bv),.int .i32 (c.toNat : Int)] w fun e w' => TextR (joined (fldT o c)) e ∧ Below w.heap.size w w' := by
 have hs2 := hs
 obtain ⟨⟨A1,c1,rfl,-,-⟩,⟨A2,c2,rfl,-,-⟩,⟨A3,c3,rfl,-,-⟩,⟨A4,c4,rfl,-,-⟩⟩ := hs
 rcases hc with rfl | rfl | rfl | rfl | rfl | hc
 ·exact wordof_H o _ _ _ _ _ _ _ _ kvs w hE hT hL hs2
 ·exact wordof_S o _ _ _ _ _ _ _ _ kvs w hE hT hL hs2
 ·exact wordof_B o _ _ _ _ _ _ _ _ kvs w hE hT hL hs2
 ·exact wordof_F o _ _ _ _ _ _ _ _ kvs w hE hT hL hs2
 ·exact wordof_C o _ _ _ _ _ _ _ _ kvs w hE hT hL hs2
 ·rcases hc with rfl | rfl | rfl | rfl | rfl | rfl | rfl
  ·exact wordof_65 o _ _ _ _ _ _ _ _ kvs w hE hT hL hs2
  ·exact wordof_75 o _ _ _ _ _ _ _ _ kvs w hE hT hL hs2
  ·exact wordof_76 o _ _ _ _ _ _ _ _ kvs w hE hT hL hs2
  ·exact wordof_84 o _ _ _ _ _ _ _ _ kvs w hE hT hL hs2
  ·exact wordof_88 o _ _ _ _ _ _ _ _ kvs w hE hT hL hs2
  ·exact wordof_98 o _ _ _ _ _ _ _ _ kvs w hE hT hL hs2
  ·exact wordof_119 o _ _ _ _ _ _ _ _ kvs w hE hT hL hs2
end Go.Proofs.YtpkmekdpmkfcdaaGreatDoor.Sr
namespace Go.Proofs.YtpkmekdpmkfcdaaGreatDoor.Sr
set_option linter.unusedVariables false
set_option linter.unusedSimpArgs false
open Go.RowKit Go.Proofs.YtpkmekdpmkfcdaaGreatDoor.Wd Go.Proofs.YtpkmekdpmkfcdaaGreatDoor.Px Go.Proofs.YtpkmekdpmkfcdaaGreatDoor.By Go.Proofs.YtpkmekdpmkfcdaaGreatDoor.En Go.Proofs.YtpkmekdpmkfcdaaGreatDoor.Pl Go.Proofs.YtpkmekdpmkfcdaaGreatDoor.Pf Go.Proofs.YtpkmekdpmkfcdaaGreatDoor.Sc
def WordsR (r : Except Int (List (List UInt8))) (w : World) (e : Ending) (w' : World) : Prop := match r with
 | .ok ws => ∃ A k l,e = .returned (.tuple #[.slice A l.length k,.int .i64 0]) ∧ w'.ownsRow w.heap.size 9 1 (.slice A l.length k) l.length (l.map strc) ∧ join 32 l = join 32 ws ∧ (∀ x ∈ l,x.length ≤ 100000000) ∧ l.length ≤ 4
 | .error x => e = .returned (.tuple #[.slice none 0 0,.int .i64 x])
theorem bare_as {x y : Cel} {f : List UInt8} (h : Hid (f.foldl bareC { x with o := { x.o with kind := 0 } } = y)) (hf : f.length ≤ 100) (hok : ∀ c ∈ f,c = 72 ∨ c = 83 ∨ c = 66 ∨ c = 70 ∨ c = 67 ∨ isNum c) (hsl : SlC x) (w : World) :
  Calls Tryz.prog 146 #[.agg (opC x.o x.dv x.cv x.fv x.bv),.string ⟨f.toArray⟩] w fun e w' => e = .returned (.agg (opC y.o y.dv y.cv y.fv y.bv)) ∧ Below w.heap.size w w' := by
 have := bare_any x f hf hok hsl w
 rwa [h.out] at this
theorem empty_as {o : Opp} {Ad Ac Af Ab : Option Addr} {nd nc nf nb cd cc cf cb : Nat} {b : Bool}
  (h : Hid (decide (nd = 0 ∧ nc = 0 ∧ nf = 0 ∧ nb = 0 ∧ o.a = 0 ∧ o.k = 0 ∧ o.t = 0 ∧ o.x = 0 ∧ o.link = 0 ∧ o.sec = 0 ∧ o.nano = 0 ∧ o.blk = 0 ∧ o.wid = 0) = b)) (h1 : nd ≤ 2000000) (h2 : nc ≤ 2000000) (h3 : nf ≤ 2000000) (h4 : nb ≤ 2000000) (hk : o.kind = 0) (w : World) :
  Calls Tryz.prog 145 #[.agg (opC o (.slice Ad nd cd) (.slice Ac nc cc) (.slice Af nf cf) (.slice Ab nb cb))] w fun e w' => e = .returned (.bool b) ∧ Below w.heap.size w w' := by
 have := empty_any o Ad Ac Af Ab nd nc nf nb cd cc cf cb w h1 h2 h3 h4 hk
 rwa [h.out] at this
theorem wordof_as {o : Opp} {dv cv fv bv : Value} {kvs : List Value} {c : UInt8} {z : Int} {r : Except Int (List UInt8)} (hr : Hid (joined (fldT o c) = r)) (hz : Hid ((c.toNat : Int) = z)) (w : World) (hE : Env w) (hT : Tabs w) (hL : LimO o) (hs : ShOp w o dv cv fv bv kvs) (hc : c = 72 ∨ c = 83 ∨ c = 66 ∨ c = 70 ∨ c = 67 ∨ isNum c) :
  Calls Tryz.prog 147 #[.agg (opC o dv cv fv bv),.int .i32 z] w fun e w' => TextR r e ∧ Below w.heap.size w w' := by
 have := wordof_any o dv cv fv bv kvs w hE hT hL hs c hc
 rwa [hr.out,hz.out] at this
theorem ItAt.app {D : Nat} {t : ByteArray} {pos b s n : Nat} {e : TypeId} {v : Value} {xs : List Value} {w w' : World} (h : ItAt D t pos w) (hrow : w.ownsRow b e s v n xs) (o : Obj) (hg : (w.alloc o).grownBy w' v.ownBlock) : ItAt D t pos w' :=
 (grown_heap hg (by have := (Array.getElem?_eq_some_iff.1 h).1;simp;omega) (fun e2 => by
  obtain ⟨c,hc⟩ := own_kind hrow e2.symm
  unfold ItAt at h
  rw [h] at hc
  cases hc)).trans ((heap_alloc_old _ _ (Array.getElem?_eq_some_iff.1 h).1).trans h)
theorem Blk.app {R : Nat} {vs : Array Value} {t : TypeId} {b s n : Nat} {e : TypeId} {v : Value} {xs : List Value} {w w' : World} (h : Blk R vs t w) (hrow : w.ownsRow b e s v n xs) (he : e ≠ t) (o : Obj) (hg : (w.alloc o).grownBy w' v.ownBlock) : Blk R vs t w' :=
 (grown_heap hg (by have := h.lt;simp;omega) (fun e2 => h.apart hrow he e2.symm rfl)).trans ((heap_alloc_old _ _ h.lt).trans h)
theorem own_iter2 {w : World} {base D p pos : Nat} {t t' : ByteArray} {e : TypeId} {s n : Nat} {v : Value} {xs : List Value} (h : w.ownsRow base e s v n xs) (hI : ItAt D t' pos w) : (w.iterAt D t p).ownsRow base e s v n xs :=
 own_same h fun g hg => Lib.iterAt_other w D g t p (fun e2 => by
  obtain ⟨c,hc⟩ := own_kind h hg
  unfold ItAt at hI
  rw [e2,hI] at hc
  cases hc)
theorem stepForm_in : ∀ K,1 ≤ K → K ≤ 14 → ∀ c ∈ stepForm K,c = 72 ∨ c = 83 ∨ c = 66 ∨ c = 70 ∨ c = 67 ∨ isNum c := by
 intro K h1 h2
 have hK : K = 1 ∨ K = 2 ∨ K = 3 ∨ K = 4 ∨ K = 5 ∨ K = 6 ∨ K = 7 ∨ K = 8 ∨ K = 9 ∨ K = 10 ∨ K = 11 ∨ K = 12 ∨ K = 13 ∨ K = 14 := by omega
 unfold isNum
 rcases hK with rfl | rfl | rfl | rfl | rfl | rfl | rfl | rfl | rfl | rfl | rfl | rfl | rfl | rfl <;> decide
set_option maxRecDepth 100000 in
set_option maxHeartbeats 4000000 in
theorem wordsof_any (o : Opp) (dv cv fv bv : Value) (kvs : List Value) (w : World) (hE : Env w) (hT : Tabs w) (hL : LimO o) (hs : ShOp w o dv cv fv bv kvs) :
  Calls Tryz.prog 56 #[.agg (opC o dv cv fv bv)] w fun e w' => WordsR (Sc.stepT o) w e w' ∧ Below w.heap.size w w' := by
 obtain ⟨i0,hi0,hz0,hz1,hz2⟩ := info_parts infoStr
 obtain ⟨rs,hrs⟩ : ∃ r,Sc.stepT o = r := ⟨_,rfl⟩
 rw [hrs]
 have HRS := Lib.hid hrs
 clear hrs
 obtain ⟨ck,hck⟩ : ∃ k,o.kind = k := ⟨_,rfl⟩
 have HCK := Lib.hid hck
 by_cases h1 : ck < 1
 ·have HR : Hid (rs = .error 222) := Lib.hid (by rw [← HRS.out];unfold Sc.stepT;rw [if_pos (by rw [hck];omega)])
  simp only [opC,hck]
  clear hck HRS HCK
  go_enter Tryz.func56,Tryz.ntmps56
  go_wp2
  go_ret2
  exact ⟨by rw [HR.out];exact rfl,one w _⟩
 ·by_cases h2 : 14 < ck
  ·have HR : Hid (rs = .error 222) := Lib.hid (by rw [← HRS.out];unfold Sc.stepT;rw [if_pos (by rw [hck];omega)])
   simp only [opC,hck]
   clear hck HRS HCK
   go_enter Tryz.func56,Tryz.ntmps56
   go_wp2
   go_ret2
   exact ⟨by rw [HR.out];exact rfl,one w _⟩
  ·obtain ⟨k0,hk0⟩ : ∃ k0 : Nat,ck = (k0 : Int) + 1 := ⟨ck.toNat - 1,by omega⟩
   have hk14 : k0 < 14 := by omega
   obtain ⟨nm,hnm⟩ : ∃ x,stepNames[k0]? = some x := ⟨_,List.getElem?_eq_getElem (by show k0 < 14;exact hk14)⟩
   obtain ⟨f,hf⟩ : ∃ f,stepForm (k0 + 1) = f := ⟨_,rfl⟩
   obtain ⟨t0,t1⟩ := hT.st k0 nm hnm
   rw [hf] at t1
   have hM3 := stepForm_len (k0 + 1) (by omega)
   rw [hf] at hM3
   have HIN := Lib.hid (stepForm_in (k0 + 1) (by omega) (by omega))
   rw [hf] at HIN
   have hnl : nm.length ≤ 10 := by
    have : k0 = 0 ∨ k0 = 1 ∨ k0 = 2 ∨ k0 = 3 ∨ k0 = 4 ∨ k0 = 5 ∨ k0 = 6 ∨ k0 = 7 ∨ k0 = 8 ∨ k0 = 9 ∨ k0 = 10 ∨ k0 = 11 ∨ k0 = 12 ∨ k0 = 13 := by omega
    rcases this with rfl | rfl | rfl | rfl | rfl | rfl | rfl | rfl | rfl | rfl | rfl | rfl | rfl | rfl <;> (injection hnm with hnm;subst hnm;decide)
   have HST : Hid (Sc.stepT o = if spareS o f = true then .error 228 else match mapE (fldT o) f with | .error e => .error e | .ok ls => .ok (nm :: ls.flatten)) := Lib.hid (by
    unfold Sc.stepT
    rw [if_neg (by rw [hck];omega)]
    have e1 : o.kind.toNat = k0 + 1 := by rw [hck,hk0];omega
    rw [e1,hf,show k0 + 1 - 1 = k0 from rfl,List.getD_eq_getElem?_getD,hnm]
    rfl)
   have hs2 := hs
   obtain ⟨⟨A1,c1,rfl,q1,-⟩,⟨A2,c2,rfl,q2,-⟩,⟨A3,c3,rfl,q3,-⟩,⟨A4,c4,rfl,q4,-⟩⟩ := hs
   obtain ⟨o',B1,m1,d1,B2,m2,d2,B3,m3,d3,B4,m4,d4,g1,g2,g3,g4,g5,g6,g7⟩ := bare_spare o A1 A2 A3 A4 c1 c2 c3 c4 (k0 + 1) (by omega) (by omega)
   rw [hf] at g1 g7
   obtain ⟨sp,hsp⟩ : ∃ b,spareS o f = b := ⟨_,rfl⟩
   rw [hsp] at g7 HST
   have HEM := Lib.hid g7
   have HBA : Hid (f.foldl bareC { (⟨o,.slice A1 o.data.length c1,.slice A2 o.chs.length c2,.slice A3 o.fls.length c3,.slice A4 o.keep.length c4⟩ : Cel) with o := { o with kind := 0 } } = ⟨o',.slice B1 m1 d1,.slice B2 m2 d2,.slice B3 m3 d3,.slice B4 m4 d4⟩) := Lib.hid g1
   have HSL : Hid (SlC ⟨o,.slice A1 o.data.length c1,.slice A2 o.chs.length c2,.slice A3 o.fls.length c3,.slice A4 o.keep.length c4⟩) := Lib.hid ⟨sl_slice _ _ _,sl_slice _ _ _,sl_slice _ _ _,sl_slice _ _ _⟩
   have b1 := Nat.le_trans g3 hL.data
   have b2 := Nat.le_trans g4 hL.chs
   have b3 := Nat.le_trans g5 hL.fls
   have b4 := Nat.le_trans g6 hL.keep
   have HO0 := Lib.hid g2
   clear g1 g2 g3 g4 g5 g6 g7 hsp
   have HL := Lib.hid hL
   have j1 : ¬ (ck < 1) := by omega
   have j2 : ¬ (14 < ck) := by omega
   have j3 : IntKind.i64.wrap (ck - 1) = (k0 : Int) := by rw [hk0,Int.add_sub_cancel];exact IntWalk.i64_in _ ⟨by omega,by omega⟩
   have j4 : (k0 : Int) < 14 := by omega
   obtain ⟨oc,hoc⟩ : ∃ oc,opC o (.slice A1 o.data.length c1) (.slice A2 o.chs.length c2) (.slice A3 o.fls.length c3) (.slice A4 o.keep.length c4) = oc := ⟨_,rfl⟩
   have HOC := Lib.hid hoc
   have k0w := keepc (one w (.cells oc 108)) t0
   have k1w := keepc (one w (.cells oc 108)) t1
   have HB0 : Hid (Below w.heap.size w ((w.alloc (.cells oc 108)).alloc (.cells #[.string ⟨nm.toArray⟩,.string ⟨f.toArray⟩] 137))) := Lib.hid ((one w _).alloc (by simp) _)
   have HC0 : Hid (Blk w.heap.size oc 108 ((w.alloc (.cells oc 108)).alloc (.cells #[.string ⟨nm.toArray⟩,.string ⟨f.toArray⟩] 137))) := Lib.hid (Blk.on (blk_new w _ _) (one _ _))
   have HR0 : Hid (Blk (w.heap.size + 1) #[.string ⟨nm.toArray⟩,.string ⟨f.toArray⟩] 137 ((w.alloc (.cells oc 108)).alloc (.cells #[.string ⟨nm.toArray⟩,.string ⟨f.toArray⟩] 137))) := Lib.hid (by
    have := blk_new (w.alloc (.cells oc 108)) #[.string ⟨nm.toArray⟩,.string ⟨f.toArray⟩] 137
    rwa [World.size_alloc] at this)
   rw [← hoc] at HB0 HC0 HR0 k0w k1w
   rw [← hoc] at HOC
   clear hoc
   have HF3 : Hid (f.length ≤ 3) := Lib.hid hM3
   clear h1 h2 hk0 hf hnm t0 t1 hM3 hL
   obtain ⟨n1,hn1⟩ : ∃ n,o.data.length = n := ⟨_,rfl⟩
   obtain ⟨n2,hn2⟩ : ∃ n,o.chs.length = n := ⟨_,rfl⟩
   obtain ⟨n3,hn3⟩ : ∃ n,o.fls.length = n := ⟨_,rfl⟩
   obtain ⟨n4,hn4⟩ : ∃ n,o.keep.length = n := ⟨_,rfl⟩
   rw [hn1,hn2,hn3,hn4] at HBA HSL k0w k1w HB0 HC0 HR0 hs2 ⊢
   clear hn1 hn2 hn3 hn4 HOC q1 q2 q3 q4
   have HSH := Lib.hid hs2
   clear hs2
   obtain ⟨ko,a,k,t,x,link,data,sec,nano,blk,wid,chs,fls,keep⟩ := o
   obtain ⟨ko',a',k',t',x',link',data',sec',nano',blk',wid',chs',fls',keep'⟩ := o'
   have hkk : ko = ck := hck
   subst hkk
   clear hck HCK
   simp only [opC] at HB0 HC0 HR0 k0w k1w ⊢
   go_enter Tryz.func56,Tryz.ntmps56
   go_upto_region 4 with fail
   have hb0 := HB0.out
   have hC0 := HC0.out
   have hR0 := HR0.out
   clear HB0 HC0 HR0 k0w k1w
   generalize ((w.alloc (.cells #[.int .i64 ko,.int .i64 a,.int .i64 k,.int .i64 t,.int .i64 x,.int .i64 link,.slice A1 n1 c1,.int .i64 sec,.int .i64 nano,.int .i64 blk,.int .i64 wid,.slice A2 n2 c2,.slice A3 n3 c3,.slice A4 n4 c4] 108)).alloc (.cells #[.string ⟨nm.toArray⟩,.string ⟨f.toArray⟩] 137)) = W0 at hb0 hC0 hR0 ⊢
   have r0 : W0.cell? ⟨w.heap.size + 1,0,none⟩ = some (.string ⟨nm.toArray⟩) := hR0.cell rfl
   have r1 : W0.cell? ⟨w.heap.size + 1,1,none⟩ = some (.string ⟨f.toArray⟩) := hR0.cell rfl
   have e0 : W0.cell? ⟨w.heap.size,0,none⟩ = some (.int .i64 ko) := hC0.cell rfl
   have e1 : W0.cell? ⟨w.heap.size,1,none⟩ = some (.int .i64 a) := hC0.cell rfl
   have e2 : W0.cell? ⟨w.heap.size,2,none⟩ = some (.int .i64 k) := hC0.cell rfl
   have e3 : W0.cell? ⟨w.heap.size,3,none⟩ = some (.int .i64 t) := hC0.cell rfl
   have e4 : W0.cell? ⟨w.heap.size,4,none⟩ = some (.int .i64 x) := hC0.cell rfl
   have e5 : W0.cell? ⟨w.heap.size,5,none⟩ = some (.int .i64 link) := hC0.cell rfl
   have e6 : W0.cell? ⟨w.heap.size,6,none⟩ = some (.slice A1 n1 c1) := hC0.cell rfl
   have e7 : W0.cell? ⟨w.heap.size,7,none⟩ = some (.int .i64 sec) := hC0.cell rfl
   have e8 : W0.cell? ⟨w.heap.size,8,none⟩ = some (.int .i64 nano) := hC0.cell rfl
   have e9 : W0.cell? ⟨w.heap.size,9,none⟩ = some (.int .i64 blk) := hC0.cell rfl
   have e10 : W0.cell? ⟨w.heap.size,10,none⟩ = some (.int .i64 wid) := hC0.cell rfl
   have e11 : W0.cell? ⟨w.heap.size,11,none⟩ = some (.slice A2 n2 c2) := hC0.cell rfl
   have e12 : W0.cell? ⟨w.heap.size,12,none⟩ = some (.slice A3 n3 c3) := hC0.cell rfl
   have e13 : W0.cell? ⟨w.heap.size,13,none⟩ = some (.slice A4 n4 c4) := hC0.cell rfl
   have hbare := bare_as HBA (by have := HF3.out;omega) HIN.out HSL.out W0
   simp only [opC] at hbare
   obtain ⟨em,hem⟩ : ∃ em,(!sp) = em := ⟨_,rfl⟩
   rw [hem] at HEM
   have hempty := fun W => empty_as (Ad := B1) (Ac := B2) (Af := B3) (Ab := B4) (cd := d1) (cc := d2) (cf := d3) (cb := d4) HEM b1 b2 b3 b4 HO0.out W
   simp only [opC] at hempty
   cases sp with
   | true =>
    have hem2 : em = false := hem.symm
    subst hem2
    have HR : Hid (rs = .error 228) := Lib.hid (by rw [← HRS.out,HST.out,if_pos rfl])
    clear HRS HST HEM HBA hem
    go_wp2_with (first
     | (go_at_call 146;refine hbare.mono ?_;rintro e w3 ⟨rfl,hb3⟩)
     | (go_at_call 145;refine (hempty _).mono ?_;rintro e w4 ⟨rfl,hb4⟩))
    go_ret2
    exact ⟨by rw [HR.out];exact rfl,(hb0.trans (hb3.mono hb0.size)).trans (hb4.mono (hb0.trans (hb3.mono hb0.size)).size)⟩
   | false =>
    have hem2 : em = true := hem.symm
    subst hem2
    have HST2 : Hid (rs = match mapE (fldT ⟨ko,a,k,t,x,link,data,sec,nano,blk,wid,chs,fls,keep⟩) f with | .error e => .error e | .ok ls => .ok (nm :: ls.flatten)) := Lib.hid (by rw [← HRS.out,HST.out,if_neg (by simp)])
    clear HRS HST HEM HBA hem
    go_upto_region 6 with (first
     | (go_at_call 146;refine hbare.mono ?_;rintro e w3 ⟨rfl,hb3⟩)
     | (go_at_call 145;refine (hempty _).mono ?_;rintro e w4 ⟨rfl,hb4⟩))
    have hC4 := (hC0.on hb3).on hb4
    have hR4 := (hR0.on hb3).on hb4
    have hb5 := (hb0.trans (hb3.mono hb0.size)).trans (hb4.mono (hb0.trans (hb3.mono hb0.size)).size)
    clear hb3 hb4 hC0 hR0 hb0 r0 r1 e0 e1 e2 e3 e4 e5 e6 e7 e8 e9 e10 e11 e12 e13 hbare hempty
    have r0 : w4.cell? ⟨w.heap.size + 1,0,none⟩ = some (.string ⟨nm.toArray⟩) := hR4.cell rfl
    have r1 : w4.cell? ⟨w.heap.size + 1,1,none⟩ = some (.string ⟨f.toArray⟩) := hR4.cell rfl
    have r1' := keepc (one w4 (.cells #[.string ⟨nm.toArray⟩] 9)) r1
    obtain ⟨M,hM⟩ : ∃ M,f.length = M := ⟨_,rfl⟩
    obtain ⟨tb,htb⟩ : ∃ tb : ByteArray,tb = ⟨f.toArray⟩ := ⟨_,rfl⟩
    have hsz : tb.size = M := by rw [htb];exact hM
    have hm3 := HF3.out
    rw [hM] at hm3
    have HM := Lib.hid hM
    have HTB := Lib.hid htb
    have HSZ := Lib.hid hsz
    rw [← htb] at r1 r1'
    have hI0 : ItAt (w4.heap.size + 1) tb 0 ((w4.alloc (.cells #[.string ⟨nm.toArray⟩] 9)).iter tb 0) := by
     have := World.alloc_heap_new (w4.alloc (.cells #[.string ⟨nm.toArray⟩] 9)) (.stringIter tb 0)
     rw [World.size_alloc] at this
     exact this
    have hP0 : Blk w.heap.size #[.int .i64 ko,.int .i64 a,.int .i64 k,.int .i64 t,.int .i64 x,.int .i64 link,.slice A1 n1 c1,.int .i64 sec,.int .i64 nano,.int .i64 blk,.int .i64 wid,.slice A2 n2 c2,.slice A3 n3 c3,.slice A4 n4 c4] 108 ((w4.alloc (.cells #[.string ⟨nm.toArray⟩] 9)).iter tb 0) := Blk.on (Blk.on hC4 (one _ _)) (one _ _)
    have hB0 : Below w.heap.size w ((w4.alloc (.cells #[.string ⟨nm.toArray⟩] 9)).iter tb 0) := (hb5.alloc hb5.size _).alloc (by have := hb5.size;simp;omega) _
    have hO0 : ((w4.alloc (.cells #[.string ⟨nm.toArray⟩] 9)).iter tb 0).ownsRow w.heap.size 9 1 (.slice (some ⟨w4.heap.size,0,none⟩) 1 1) 1 ([nm].map strc) := by
     have h0 : (w4.alloc (.cells #[.string ⟨nm.toArray⟩] 9)).ownsRow w.heap.size 9 1 (.slice (some ⟨w4.heap.size,0,none⟩) 1 1) 1 ([nm].map strc) := ⟨rfl,.inr ⟨_,_,_,rfl,hb5.size,blk_new w4 _ _,Nat.le_refl _,by decide,rfl,rfl⟩⟩
     exact h0.alloc (.stringIter tb 0)
    have hsz5 := hb5.size
    clear hM htb hsz hR4 hC4 HF3
    go_wp2
    go_loopw [5] (fun v wr => ∃ (pos n : Nat) (dn : List (List UInt8)),pos ≤ M ∧ n ≤ pos + 1 ∧ (∃ A c,v = .slice A n c) ∧ Hid (dn.length = n) ∧ Hid (∃ ls,mapE (fldT ⟨ko,a,k,t,x,link,data,sec,nano,blk,wid,chs,fls,keep⟩) (f.take pos) = .ok ls ∧ dn = nm :: (ls.map (join 32)).filter nonE ∧ ∀ a ∈ ls,∀ w ∈ a,w ≠ []) ∧ Hid (∀ x ∈ dn,x.length ≤ 100000000) ∧ ItAt (w4.heap.size + 1) tb pos wr ∧ Blk w.heap.size #[.int .i64 ko,.int .i64 a,.int .i64 k,.int .i64 t,.int .i64 x,.int .i64 link,.slice A1 n1 c1,.int .i64 sec,.int .i64 nano,.int .i64 blk,.int .i64 wid,.slice A2 n2 c2,.slice A3 n3 c3,.slice A4 n4 c4] 108 wr ∧ wr.ownsRow w.heap.size 9 1 v n (dn.map strc) ∧ Below w.heap.size w wr) (fun _ wr => tb.size - wr.iterPos (w4.heap.size + 1))
    case atStart => exact ⟨0,1,[nm],Nat.zero_le _,Nat.le_refl _,⟨_,_,rfl⟩,Lib.hid rfl,Lib.hid ⟨[],rfl,rfl,by simp⟩,Lib.hid (by intro y hy;simp at hy;subst hy;omega),hI0,hP0,hO0,hB0⟩
    case round =>
     obtain ⟨pos,n,dn,hpos,hn,⟨Al,cl,rfl⟩,HDN,HLS,HDL,hI,hPB,hown,hbl⟩ := hrel
     clear hI0 hP0 hO0 hB0 r0 r1 r1'
     have hI1 : wr.heap[w4.heap.size + 1]? = some (.stringIter tb pos) := hI
     by_cases hlt : pos < M
     ·obtain ⟨y,hy⟩ : ∃ y,f[pos]? = some y := ⟨_,List.getElem?_eq_getElem (by rw [HM.out];exact hlt)⟩
      have hlt2 : pos < tb.size := by rw [HSZ.out];exact hlt
      have hty : tb[pos]'hlt2 = y := str_at HTB.out hy hlt2
      have hyy := HIN.out y (List.mem_of_getElem? hy)
      have ha : (tb[pos]'hlt2).toNat < 128 := by rw [hty];rcases hyy with rfl | rfl | rfl | rfl | rfl | hyy <;> first | decide | (rcases hyy with rfl | rfl | rfl | rfl | rfl | rfl | rfl <;> decide)
      have hnx : ∀ ty,(Instr.next (.pointer (some ⟨w4.heap.size + 1,0,none⟩)) true ty).run Tryz.prog wr = .ok (.tuple #[.bool true,.int .i64 pos,.int .i32 (tb[pos]'hlt2).toNat]) (wr.iterAt (w4.heap.size + 1) tb (pos + 1)) := fun ty => Lib.run_next_ascii_at wr _ tb pos ty hI1 hlt2 ha
      rw [hty] at hnx
      obtain ⟨z,hz⟩ : ∃ z : Int,(y.toNat : Int) = z := ⟨_,rfl⟩
      rw [hz] at hnx
      have HZ := Lib.hid hz
      obtain ⟨hts,htl⟩ := take_snoc hy
      have HBAD : Hid (∀ q,fldT ⟨ko,a,k,t,x,link,data,sec,nano,blk,wid,chs,fls,keep⟩ y = .error q → rs = .error q) := Lib.hid (fun q hq => by
       obtain ⟨ls,g1,g2,g3⟩ := HLS.out
       rw [HST2.out,htl,mapE_bad _ g1 hq])
      have HGO : Hid (∀ ws,fldT ⟨ko,a,k,t,x,link,data,sec,nano,blk,wid,chs,fls,keep⟩ y = .ok ws → ∃ ls,mapE (fldT ⟨ko,a,k,t,x,link,data,sec,nano,blk,wid,chs,fls,keep⟩) (f.take (pos + 1)) = .ok (ls ++ [ws]) ∧ dn = nm :: (ls.map (join 32)).filter nonE ∧ ∀ a ∈ ls ++ [ws],∀ w ∈ a,w ≠ []) := Lib.hid (fun ws hq => by
       obtain ⟨ls,g1,g2,g3⟩ := HLS.out
       refine ⟨ls,by rw [hts];exact mapE_snoc g1 hq,g2,fun b hb => ?_⟩
       rcases List.mem_append.1 hb with hb | hb
       ·exact g3 b hb
       ·rw [List.mem_singleton.1 hb];exact fldT_ne HL.out.in_ hq)
      have hI2 := hI.next (pos + 1)
      have hP2 : Blk w.heap.size #[.int .i64 ko,.int .i64 a,.int .i64 k,.int .i64 t,.int .i64 x,.int .i64 link,.slice A1 n1 c1,.int .i64 sec,.int .i64 nano,.int .i64 blk,.int .i64 wid,.slice A2 n2 c2,.slice A3 n3 c3,.slice A4 n4 c4] 108 (wr.iterAt (w4.heap.size + 1) tb (pos + 1)) := (Lib.iterAt_other wr _ _ tb (pos + 1) (by omega)).trans hPB
      have hown2 := own_iter2 (p := pos + 1) (t := tb) hown hI
      have hbl2 := Lib.below_iterAt hbl (k := w4.heap.size + 1) (by omega) tb (pos + 1)
      have hm : tb.size - (pos + 1) < tb.size - wr.iterPos (w4.heap.size + 1) := by rw [hI.pos];omega
      have HMS := Lib.hid hm
      generalize wr.iterAt (w4.heap.size + 1) tb (pos + 1) = w2 at hnx hI2 hP2 hown2 hbl2
      clear hI hI1 hPB hown hbl hm hty ha hts htl hy hz
      obtain ⟨rf,hrf⟩ : ∃ r,fldT ⟨ko,a,k,t,x,link,data,sec,nano,blk,wid,chs,fls,keep⟩ y = r := ⟨_,rfl⟩
      have HRJ : Hid (joined (fldT ⟨ko,a,k,t,x,link,data,sec,nano,blk,wid,chs,fls,keep⟩ y) = joined rf) := Lib.hid (by rw [hrf])
      have hcall := wordof_as HRJ HZ w2 (hE.on hbl2) (hT.on hbl2) HL.out (HSH.out.on hbl2) hyy
      simp only [opC] at hcall
      have e0 : w2.cell? ⟨w.heap.size,0,none⟩ = some (.int .i64 ko) := hP2.cell rfl
      have e1 : w2.cell? ⟨w.heap.size,1,none⟩ = some (.int .i64 a) := hP2.cell rfl
      have e2 : w2.cell? ⟨w.heap.size,2,none⟩ = some (.int .i64 k) := hP2.cell rfl
      have e3 : w2.cell? ⟨w.heap.size,3,none⟩ = some (.int .i64 t) := hP2.cell rfl
      have e4 : w2.cell? ⟨w.heap.size,4,none⟩ = some (.int .i64 x) := hP2.cell rfl
      have e5 : w2.cell? ⟨w.heap.size,5,none⟩ = some (.int .i64 link) := hP2.cell rfl
      have e6 : w2.cell? ⟨w.heap.size,6,none⟩ = some (.slice A1 n1 c1) := hP2.cell rfl
      have e7 : w2.cell? ⟨w.heap.size,7,none⟩ = some (.int .i64 sec) := hP2.cell rfl
      have e8 : w2.cell? ⟨w.heap.size,8,none⟩ = some (.int .i64 nano) := hP2.cell rfl
      have e9 : w2.cell? ⟨w.heap.size,9,none⟩ = some (.int .i64 blk) := hP2.cell rfl
      have e10 : w2.cell? ⟨w.heap.size,10,none⟩ = some (.int .i64 wid) := hP2.cell rfl
      have e11 : w2.cell? ⟨w.heap.size,11,none⟩ = some (.slice A2 n2 c2) := hP2.cell rfl
      have e12 : w2.cell? ⟨w.heap.size,12,none⟩ = some (.slice A3 n3 c3) := hP2.cell rfl
      have e13 : w2.cell? ⟨w.heap.size,13,none⟩ = some (.slice A4 n4 c4) := hP2.cell rfl
      cases rf with
      | error q =>
       have HE := Lib.hid (HBAD.out q hrf)
       have hq : (q != 0) = true := by rw [bne_iff_ne];exact fldT_err hrf
       clear hrf HBAD HGO
       go_wp2_with (go_at_call 147;refine hcall.mono ?_;rintro e w5 ⟨hres,hb6⟩;have hres2 : e = .returned (.tuple #[.string ⟨#[]⟩,.int .i64 q]) := hres;subst hres2;clear hres)
       go_ret2
       exact ⟨by rw [HE.out];exact rfl,hbl2.trans (hb6.mono hbl2.size)⟩
      | ok ws =>
       have HG := Lib.hid (HGO.out ws hrf)
       have HWL := Lib.hid (fldT_len HL.out hrf)
       clear hrf HBAD HGO
       obtain ⟨tx,htx⟩ : ∃ t,join 32 ws = t := ⟨_,rfl⟩
       rw [htx] at HWL
       have HTX := Lib.hid htx
       clear htx
       cases tx with
       | nil =>
        go_wp2_with (go_at_call 147;refine hcall.mono ?_;rintro e w5 ⟨hres,hb6⟩;have hres2 : e = .returned (.tuple #[.string ⟨([] : List UInt8).toArray⟩,.int .i64 0]) := (by rw [← HTX.out];exact hres);subst hres2;clear hres)
        have hI3 : ItAt (w4.heap.size + 1) tb (pos + 1) w5 := (hb6.block _ (Array.getElem?_eq_some_iff.1 hI2).1).trans hI2
        have HM5 : Hid (tb.size - w5.iterPos (w4.heap.size + 1) < tb.size - wr.iterPos (w4.heap.size + 1)) := Lib.hid (by rw [hI3.pos];exact HMS.out)
        go_roundw
        case rel =>
         refine ⟨pos + 1,n,dn,by omega,by omega,⟨_,_,rfl⟩,HDN,Lib.hid ?_,HDL,hI3,hP2.on hb6,own_on hown2 hb6,hbl2.trans (hb6.mono hbl2.size)⟩
         obtain ⟨ls,g1,g2,g3⟩ := HG.out
         refine ⟨ls ++ [ws],g1,?_,g3⟩
         rw [g2,List.map_append,List.filter_append,List.map_singleton,HTX.out]
         simp [nonE]
        case measure => exact HM5.out
       | cons t0 tr =>
        have hne : (t0 :: tr == []) = false := rfl
        go_wp2_with (first
         | (go_at_call 147;refine hcall.mono ?_;rintro e w5 ⟨hres,hb6⟩;have hres2 : e = .returned (.tuple #[.string ⟨(t0 :: tr).toArray⟩,.int .i64 0]) := (by rw [← HTX.out];exact hres);subst hres2;clear hres;have hown3 := own_on hown2 hb6;have hb7 := hbl2.trans (hb6.mono hbl2.size))
         | (at_builtin;go_loud (refine wpList_append_own _ rfl _ _ 37 rfl w.heap.size 9 i0 (.string ⟨#[]⟩) 1 16 Tryz.underlying37 hi0 hz0 hz1 hz2 rfl (by decide) _ _ _ rfl (hown3.alloc _) ⟨w5.heap.size,0,none⟩ 1 1 [.string ⟨(t0 :: tr).toArray⟩] rfl rfl (cells_at rfl _ _) ?c2 ?c3 ?c4 ?c5 ?_)))
        case c2 => intro u hu;simp at hu;subst hu;rfl
        case c3 => unfold maxLen;omega
        case c4 => omega
        case c5 => have := hb7.size;simp;omega
        intro v' w6 hown4 hgrow _
        have hI3 : ItAt (w4.heap.size + 1) tb (pos + 1) w5 := (hb6.block _ (Array.getElem?_eq_some_iff.1 hI2).1).trans hI2
        have hI4 := hI3.app hown3 _ hgrow
        have hP4 := (hP2.on hb6).app hown3 (by decide) _ hgrow
        have hbA := (hb7.alloc hb7.size _).grown hgrow (by have := hb7.size;simp;omega) (fun j hj => (hown3.lt j hj).1)
        obtain ⟨A4,c4',rfl,-⟩ := own_sl hown4
        have HM5 : Hid (tb.size - w6.iterPos (w4.heap.size + 1) < tb.size - wr.iterPos (w4.heap.size + 1)) := Lib.hid (by rw [hI4.pos];exact HMS.out)
        clear hown2 hown3 hgrow hb7 hb6 hI2 hI3 hP2 hbl2 e0 e1 e2 e3 e4 e5 e6 e7 e8 e9 e10 e11 e12 e13
        go_wp2
        go_roundw
        case rel =>
         refine ⟨pos + 1,n + 1,dn ++ [t0 :: tr],by omega,by omega,⟨_,_,rfl⟩,Lib.hid (by rw [List.length_append,HDN.out];rfl),Lib.hid ?_,Lib.hid ?_,hI4,hP4,by rw [List.map_append];exact hown4,hbA⟩
         ·obtain ⟨ls,g1,g2,g3⟩ := HG.out
          refine ⟨ls ++ [ws],g1,?_,g3⟩
          rw [g2,List.map_append,List.filter_append,List.map_singleton,HTX.out]
          simp [nonE]
         ·intro u hu
          rcases List.mem_append.1 hu with hu | hu
          ·exact HDL.out u hu
          ·rw [List.mem_singleton.1 hu];exact HWL.out
        case measure => exact HM5.out
     ·obtain rfl : pos = M := by omega
      have hnx : ∀ ty,(Instr.next (.pointer (some ⟨w4.heap.size + 1,0,none⟩)) true ty).run Tryz.prog wr = .ok (.tuple #[.bool false]) wr := fun ty => Lib.run_next_end_at wr _ tb pos ty hI1 (by rw [HSZ.out];omega)
      have hfin : WordsR rs w (.returned (.tuple #[.slice Al n cl,.int .i64 0])) wr := by
       obtain ⟨ls,g1,g2,g3⟩ := HLS.out
       rw [List.take_of_length_le (by rw [HM.out];exact Nat.le_refl _)] at g1
       rw [HST2.out,g1]
       have hd := HDN.out
       subst hd
       refine ⟨Al,cl,dn,rfl,hown,?_,HDL.out,by omega⟩
       rw [g2]
       exact join_flat [nm] ls (by simp) g3
      have HFIN := Lib.hid hfin
      clear hI hI1 hfin
      go_wp2
      go_ret2
      exact ⟨HFIN.out,hbl⟩
end Go.Proofs.YtpkmekdpmkfcdaaGreatDoor.Sr
namespace Go.Proofs.YtpkmekdpmkfcdaaGreatDoor.Sr
set_option linter.unusedVariables false
set_option linter.unusedSimpArgs false
open Go.RowKit Go.Proofs.YtpkmekdpmkfcdaaGreatDoor.Wd Go.Proofs.YtpkmekdpmkfcdaaGreatDoor.Px Go.Proofs.YtpkmekdpmkfcdaaGreatDoor.By Go.Proofs.YtpkmekdpmkfcdaaGreatDoor.En Go.Proofs.YtpkmekdpmkfcdaaGreatDoor.Pl Go.Proofs.YtpkmekdpmkfcdaaGreatDoor.Pf Go.Proofs.YtpkmekdpmkfcdaaGreatDoor.Sc
theorem libjoin_nil : ∀ l : List (List UInt8),Go.Lib.join l [] = l.flatten
 | [] => by simp [Go.Lib.join]
 | [a] => by rw [Go.Lib.join_one];simp
 | a :: b :: r => by
  have e : Go.Lib.join (a :: b :: r) [] = a ++ [] ++ Go.Lib.join (b :: r) [] := by
   simp [Go.Lib.join,List.intercalate,List.intersperse]
  rw [e,libjoin_nil (b :: r)];simp
theorem wordsof_as {o : Opp} {dv cv fv bv : Value} {kvs : List Value} {r : Except Int (List (List UInt8))} (hr : Hid (Sc.stepT o = r)) (w : World) (hE : Env w) (hT : Tabs w) (hL : LimO o) (hs : ShOp w o dv cv fv bv kvs) :
  Calls Tryz.prog 56 #[.agg (opC o dv cv fv bv)] w fun e w' => WordsR r w e w' ∧ Below w.heap.size w w' := by
 have := wordsof_any o dv cv fv bv kvs w hE hT hL hs
 rwa [hr.out] at this
theorem flat_le (m : Nat) : ∀ l : List (List UInt8),(∀ x ∈ l,x.length ≤ m) → l.flatten.length ≤ l.length * m
 | [],_ => by simp
 | a :: r,h => by
  have h1 := h a (by simp)
  have h2 := flat_le m r (fun x hx => h x (by simp [hx]))
  rw [List.flatten_cons,List.length_append,List.length_cons,Nat.add_mul,Nat.one_mul]
  omega
theorem join_own4 {w : World} {base n : Nat} {v : Value} (ls : List (List UInt8)) (t : List UInt8) (ht : ls.flatten = t) (hown : w.ownsRow base 9 1 v n (ls.map strc)) (hN : ls.length ≤ 140737488355328) (hlen : t.length ≤ 140737488355328) :
  Calls Tryz.prog 37 #[v,.string ⟨#[]⟩] w fun e w' => e = .returned (.string ⟨t.toArray⟩) ∧ Below w.heap.size w w' := by
 have := join_own3 [] ls hown hN (by rw [libjoin_nil,ht];exact hlen)
 rw [libjoin_nil,ht] at this
 exact this
theorem join_own5 {w : World} {base n : Nat} {v : Value} (ls : List (List UInt8)) (t : List UInt8) (ht : join 32 ls = t) (hown : w.ownsRow base 9 1 v n (ls.map strc)) (hN : ls.length ≤ 140737488355328) (hlen : t.length ≤ 140737488355328) :
  Calls Tryz.prog 37 #[v,.string ⟨#[32]⟩] w fun e w' => e = .returned (.string ⟨t.toArray⟩) ∧ Below w.heap.size w w' := by
 have := join_own 32 ls hown hN (by rw [ht];exact hlen)
 rw [ht] at this
 exact this
theorem ShO.at_ {w : World} {A : Option Addr} {l : List Opp} {vs : List Opv} (h : ShO w A l vs) {k : Nat} (hk : k < l.length) : ∃ b o p x,A = some ⟨b,o,none⟩ ∧ b < w.heap.size ∧ l[k]? = some p ∧ vs[k]? = some x ∧ ShOp w p x.dv x.cv x.fv x.bv x.kvs ∧ ∀ (j : Nat) u,(opC p x.dv x.cv x.fv x.bv)[j]? = some u → w.cell? ⟨b,o + k * 14 + j,none⟩ = some u := by
 obtain ⟨b,o,rfl,hlt,hc⟩ := h.cells (by omega)
 obtain ⟨p,hp⟩ : ∃ p,l[k]? = some p := ⟨_,List.getElem?_eq_getElem hk⟩
 obtain ⟨x,hx⟩ : ∃ p,vs[k]? = some p := ⟨_,List.getElem?_eq_getElem (by rw [h.len];exact hk)⟩
 exact ⟨b,o,p,x,rfl,hlt,hp,hx,h.each k p x hp hx,hc k p x hp hx⟩
set_option maxRecDepth 100000 in
set_option maxHeartbeats 4000000 in
theorem print_any (sec : Int) (l : List Opp) (vs : List Opv) (A : Option Addr) (cc : Nat) (w : World) (hE : Env w) (hT : Tabs w) (hl : l.length ≤ 2000000) (hc : l.length ≤ cc) (hs : ShO w A l vs) (hL : ∀ o ∈ l,LimO o) :
  Calls Tryz.prog 24 #[.agg #[.int .i64 sec,.slice A l.length cc]] w fun e w' => TextR (printS sec l) e ∧ Below w.heap.size w w' := by
 obtain ⟨i0,hi0,hz0,hz1,hz2⟩ := info_parts infoStr
 obtain ⟨rs,hrs⟩ : ∃ r,printS sec l = r := ⟨_,rfl⟩
 rw [hrs]
 have HRS := Lib.hid hrs
 obtain ⟨N,hN⟩ : ∃ N,l.length = N := ⟨_,rfl⟩
 rw [hN] at hl hc ⊢
 have HN := Lib.hid hN
 obtain ⟨b,hb⟩ : ∃ b,numOk sec = b := ⟨_,rfl⟩
 have HV := Lib.hid hb
 cases b with
 | false =>
  have HR : Hid (rs = .error 223) := Lib.hid (by rw [← HRS.out];unfold printS;rw [if_pos hb])
  clear hrs HRS hN hb
  go_enter Tryz.func24,Tryz.ntmps24
  go_wp2_with (go_at_call 54;refine (isnum_as HV _).mono ?_;rintro e w9 ⟨rfl,hw9⟩;rw [hw9];clear hw9)
  go_ret2
  exact ⟨by rw [HR.out];exact rfl,one w _⟩
 | true =>
  by_cases hm : 2000 < N
  ·have HR : Hid (rs = .error 221) := Lib.hid (by rw [← HRS.out];unfold printS;rw [if_neg (by rw [hb];simp),if_pos (by rw [hN];exact hm)])
   have m1 : (2000 : Int) < (N : Int) := by omega
   clear hrs HRS hN hb hm
   go_enter Tryz.func24,Tryz.ntmps24
   go_wp2_with (go_at_call 54;refine (isnum_as HV _).mono ?_;rintro e w9 ⟨rfl,hw9⟩;rw [hw9];clear hw9)
   go_ret2
   exact ⟨by rw [HR.out];exact rfl,one w _⟩
  ·have HPS : Hid (rs = match mapE Sc.stepT l with
     | .error e => .error e
     | .ok ls => if 1048576 < ((([culv,decW sec] :: ls).map lineT).flatten).length then .error 221 else .ok (([culv,decW sec] :: ls).map lineT).flatten) := Lib.hid (by rw [← HRS.out];unfold printS;rw [if_neg (by rw [hb];simp),if_neg (by rw [hN];exact hm)];cases mapE Sc.stepT l <;> rfl)
   have m1 : ¬ (2000 : Int) < (N : Int) := by omega
   have hN2 : N ≤ 2000 := by omega
   obtain ⟨tx,htx⟩ : ∃ t,decW sec = t := ⟨_,rfl⟩
   have HX := Lib.hid htx
   have htl := decW_len hb
   rw [htx] at htl
   obtain ⟨t1,ht1⟩ : ∃ t,culv ++ [32] ++ tx = t := ⟨_,rfl⟩
   obtain ⟨t2,ht2⟩ : ∃ t,t1 ++ [10] = t := ⟨_,rfl⟩
   have hcat1 : (⟨#[99,117,108,118,101,114,116,32]⟩ ++ ⟨tx.toArray⟩ : ByteArray) = ⟨t1.toArray⟩ := by rw [← ht1];exact ByteArray.mk_append_mk _ _
   have hcat2 : (⟨t1.toArray⟩ ++ ⟨#[10]⟩ : ByteArray) = ⟨t2.toArray⟩ := by rw [← ht2];exact ByteArray.mk_append_mk _ _
   have ht1l : t1.length ≤ 18 := by rw [← ht1];simp [culv];omega
   have ht2l : t2.length ≤ 19 := by rw [← ht2];simp;omega
   have HT2 : Hid (lineT [culv,decW sec] = t2) := Lib.hid (by rw [htx,← ht2,← ht1];simp [lineT,join,culv])
   have HB1 : Hid (Below w.heap.size w (w.alloc (.cells #[.int .i64 sec,.slice A N cc] 60))) := Lib.hid (one w _)
   have HE1 := Lib.hid (hE.on (one w (.cells #[.int .i64 sec,.slice A N cc] 60)))
   have HTL := Lib.hid ht2l
   clear hrs HRS hN hb hm htx ht1 ht2 ht2l
   go_enter Tryz.func24,Tryz.ntmps24
   go_upto_region 6 with (first
    | (go_at_call 54;refine (isnum_as HV _).mono ?_;rintro e w9 ⟨rfl,hw9⟩;rw [hw9];clear hw9)
    | (go_at_call 55;refine (itoa_as HX HV _ HE1.out).mono ?_;rintro e w4 ⟨rfl,hb4⟩))
   have hb5 := HB1.out.trans (hb4.mono HB1.out.size)
   have hO0 : (w4.alloc (.cells #[.string ⟨t2.toArray⟩] 9)).ownsRow w.heap.size 9 1 (.slice (some ⟨w4.heap.size,0,none⟩) 1 1) 1 ([t2].map strc) := ⟨rfl,.inr ⟨_,_,_,rfl,hb5.size,blk_new w4 _ _,Nat.le_refl _,by decide,rfl,rfl⟩⟩
   have hP0 : Blk w.heap.size #[.int .i64 sec,.slice A N cc] 60 (w4.alloc (.cells #[.string ⟨t2.toArray⟩] 9)) := Blk.on (Blk.on (blk_new w _ _) hb4) (one _ _)
   have p1 := hP0.cell (j := 1) rfl
   have hb6 := hb5.alloc hb5.size (.cells #[.string ⟨t2.toArray⟩] 9)
   have hsz5 := hb5.size
   clear hP0 hb4 hcat1 hcat2 ht1l htl
   go_wp2
   go_loopw [4,31] (fun v i wr => ∃ (k : Nat) (dn : List (List UInt8)),k ≤ N ∧ i = .int .i64 (k : Int) ∧ (∃ A c,v = .slice A (k + 1) c) ∧ Hid (∃ ls,mapE Sc.stepT (l.take k) = .ok ls ∧ dn = t2 :: ls.map lineT) ∧ Hid (∀ y ∈ dn,y.length ≤ 500000000) ∧ wr.ownsRow w.heap.size 9 1 v (k + 1) (dn.map strc) ∧ Below w.heap.size w wr) (fun _ i _ => N - (intOf i).toNat)
   case atStart => exact ⟨0,[t2],Nat.zero_le _,rfl,⟨_,_,rfl⟩,Lib.hid ⟨[],rfl,rfl⟩,Lib.hid (by intro y hy;rw [List.mem_singleton.1 hy];have := HTL.out;omega),hO0,hb6⟩
   case round =>
    obtain ⟨k,dn,hk,rfl,⟨A2,c2,rfl⟩,HM,HL,hown,hbl⟩ := hrel
    clear hO0 p1 hb6 hb5 hsz5
    by_cases hlt : k < N
    ·have j1 : (k : Int) < (N : Int) := by omega
     obtain ⟨bb,o,op,⟨dv,cv,fv,bv,kvs,z1,z2⟩,rfl,hbb,hf,hx,hsh,hcell⟩ := hs.at_ (k := k) (by rw [HN.out];exact hlt)
     have cl : ∀ (j : Nat) u,(opC op dv cv fv bv)[j]? = some u → wr.cell? ⟨bb,o + k * 14 + j,none⟩ = some u := fun j u h => (hbl.cell (p := ⟨bb,o + k * 14 + j,none⟩) hbb).trans (hcell j u h)
     have hLo := hL op (List.mem_of_getElem? hf)
     obtain ⟨hts,htl⟩ := take_snoc hf
     have HBAD : Hid (∀ q,Sc.stepT op = .error q → rs = .error q) := Lib.hid (fun q hq => by
      obtain ⟨ls,g1,g2⟩ := HM.out
      rw [HPS.out,htl,mapE_bad _ g1 hq])
     have HGO : Hid (∀ ws,Sc.stepT op = .ok ws → ∃ ls,mapE Sc.stepT (l.take (k + 1)) = .ok ls ∧ dn ++ [lineT ws] = t2 :: ls.map lineT) := Lib.hid (fun ws hq => by
      obtain ⟨ls,g1,g2⟩ := HM.out
      exact ⟨ls ++ [ws],by rw [hts];exact mapE_snoc g1 hq,by rw [g2];simp⟩)
     have hsh1 := hsh.on hbl
     have hsh2 := hsh1
     obtain ⟨⟨A1,d1,g1,-,-⟩,⟨A3,d2,g2,-,-⟩,⟨A4,d3,g3,-,-⟩,⟨A5,d4,g4,-,-⟩⟩ := hsh
     simp only at g1 g2 g3 g4
     subst g1 g2 g3 g4
     obtain ⟨n1,hn1⟩ : ∃ n,op.data.length = n := ⟨_,rfl⟩
     obtain ⟨n2,hn2⟩ : ∃ n,op.chs.length = n := ⟨_,rfl⟩
     obtain ⟨n3,hn3⟩ : ∃ n,op.fls.length = n := ⟨_,rfl⟩
     obtain ⟨n4,hn4⟩ : ∃ n,op.keep.length = n := ⟨_,rfl⟩
     rw [hn1,hn2,hn3,hn4] at cl hsh2
     clear hn1 hn2 hn3 hn4 hts htl hf hx hcell hsh1
     have hb7 := hbl.alloc hbl.size (.cells (opC op (.slice A1 n1 d1) (.slice A3 n2 d2) (.slice A4 n3 d3) (.slice A5 n4 d4)) 108)
     have hown2 := hown.alloc (.cells (opC op (.slice A1 n1 d1) (.slice A3 n2 d2) (.slice A4 n3 d3) (.slice A5 n4 d4)) 108)
     have hsz := hbl.size
     obtain ⟨rf,hrf⟩ : ∃ r,Sc.stepT op = r := ⟨_,rfl⟩
     have HRF := Lib.hid hrf
     have hcall := wordsof_as HRF _ (hE.on hb7) (hT.on hb7) hLo (hsh2.on (one wr (.cells (opC op (.slice A1 n1 d1) (.slice A3 n2 d2) (.slice A4 n3 d3) (.slice A5 n4 d4)) 108)))
     have e0 : wr.cell? ⟨bb,o + k * 14 + 0,none⟩ = some (.int .i64 op.kind) := cl 0 _ rfl
     have e1 : wr.cell? ⟨bb,o + k * 14 + 1,none⟩ = some (.int .i64 op.a) := cl 1 _ rfl
     have e2 : wr.cell? ⟨bb,o + k * 14 + 2,none⟩ = some (.int .i64 op.k) := cl 2 _ rfl
     have e3 : wr.cell? ⟨bb,o + k * 14 + 3,none⟩ = some (.int .i64 op.t) := cl 3 _ rfl
     have e4 : wr.cell? ⟨bb,o + k * 14 + 4,none⟩ = some (.int .i64 op.x) := cl 4 _ rfl
     have e5 : wr.cell? ⟨bb,o + k * 14 + 5,none⟩ = some (.int .i64 op.link) := cl 5 _ rfl
     have e6 : wr.cell? ⟨bb,o + k * 14 + 6,none⟩ = some (.slice A1 n1 d1) := cl 6 _ rfl
     have e7 : wr.cell? ⟨bb,o + k * 14 + 7,none⟩ = some (.int .i64 op.sec) := cl 7 _ rfl
     have e8 : wr.cell? ⟨bb,o + k * 14 + 8,none⟩ = some (.int .i64 op.nano) := cl 8 _ rfl
     have e9 : wr.cell? ⟨bb,o + k * 14 + 9,none⟩ = some (.int .i64 op.blk) := cl 9 _ rfl
     have e10 : wr.cell? ⟨bb,o + k * 14 + 10,none⟩ = some (.int .i64 op.wid) := cl 10 _ rfl
     have e11 : wr.cell? ⟨bb,o + k * 14 + 11,none⟩ = some (.slice A3 n2 d2) := cl 11 _ rfl
     have e12 : wr.cell? ⟨bb,o + k * 14 + 12,none⟩ = some (.slice A4 n3 d3) := cl 12 _ rfl
     have e13 : wr.cell? ⟨bb,o + k * 14 + 13,none⟩ = some (.slice A5 n4 d4) := cl 13 _ rfl
     rw [Nat.add_zero] at e0
     simp only [opC] at hcall hb7 hown2
     clear cl hsh2 hLo
     cases rf with
     | error q =>
      have HE := Lib.hid (HBAD.out q hrf)
      have hq : (q != 0) = true := by rw [bne_iff_ne];exact stepT_err hrf
      clear hrf HBAD HGO HRF
      go_wp2_with (go_at_call 56;refine hcall.mono ?_;rintro e w5 ⟨hres,hb8⟩;have hres2 : e = .returned (.tuple #[.slice none 0 0,.int .i64 q]) := hres;subst hres2;clear hres)
      go_ret2
      exact ⟨by rw [HE.out];exact rfl,hb7.trans (hb8.mono hb7.size)⟩
     | ok ws =>
      have HG := Lib.hid (HGO.out ws hrf)
      clear hrf HBAD HGO HRF
      go_wp2_with (first
       | (go_at_call 56;refine hcall.mono ?_;rintro e w5 ⟨⟨A6,k6,l6,rfl,ho6,hj6,hx6,hl6⟩,hb8⟩;obtain ⟨tj,htj⟩ : ∃ t,join 32 l6 = t := ⟨_,rfl⟩;obtain ⟨tl,htl⟩ : ∃ t,tj ++ [10] = t := ⟨_,rfl⟩;have hcat : (⟨tj.toArray⟩ ++ ⟨#[10]⟩ : ByteArray) = ⟨tl.toArray⟩ := (by rw [← htl];exact ByteArray.mk_append_mk _ _);have htjl : tj.length ≤ 400000004 := (by rw [← htj];exact Nat.le_trans (join_le 32 100000000 l6 hx6) (by omega));have htll : tl.length ≤ 400000005 := (by rw [← htl,List.length_append,List.length_singleton];omega);have HLT : Hid (lineT ws = tl) := Lib.hid (by unfold lineT;rw [← hj6,htj,htl]);have HJ := Lib.hid (join_own5 l6 tj htj ho6 (by omega) (by omega));have hb9 := hb7.trans (hb8.mono hb7.size);have HO5 := Lib.hid (own_on hown2 hb8);clear ho6 hj6 hx6 htj htl)
       | (go_at_call 37;refine HJ.out.mono ?_;rintro e w6 ⟨rfl,hb10⟩;have hb11 := hb9.trans (hb10.mono hb9.size);have hown6 := own_on HO5.out hb10)
       | (at_builtin;go_loud (refine wpList_append_own _ rfl _ _ 37 rfl w.heap.size 9 i0 (.string ⟨#[]⟩) 1 16 Tryz.underlying37 hi0 hz0 hz1 hz2 rfl (by decide) _ _ _ rfl (hown6.alloc _) ⟨w6.heap.size,0,none⟩ 1 1 [.string ⟨tl.toArray⟩] rfl rfl (cells_at rfl _ _) ?c2 ?c3 ?c4 ?c5 ?_)))
      case c2 => intro u hu;simp at hu;subst hu;rfl
      case c3 => unfold maxLen;omega
      case c4 => omega
      case c5 => have := hb11.size;simp;omega
      intro v' w7 hown7 hgrow _
      have hbA := (hb11.alloc hb11.size _).grown hgrow (by have := hb11.size;simp;omega) (fun j hj => (hown6.lt j hj).1)
      obtain ⟨A7,c7,rfl,-⟩ := own_sl hown7
      have HTLL := Lib.hid htll
      clear hown hown2 hown6 hgrow hb11 hb10 hb9 hb8 hb7 hbl hcat htjl htll hcall e0 e1 e2 e3 e4 e5 e6 e7 e8 e9 e10 e11 e12 e13
      go_wp2
      go_roundw
      case rel => exact ⟨k + 1,dn ++ [tl],by omega,by go_num,⟨_,_,rfl⟩,by rw [HLT.out] at HG;exact HG,Lib.hid (fun y hy => by rcases List.mem_append.1 hy with hy | hy;exact HL.out y hy;rw [List.mem_singleton.1 hy];have := HTLL.out;omega),by simpa [strc] using hown7,hbA⟩
      case measure => simp [intOf];omega
    ·obtain rfl : k = N := by omega
     have j1 : ¬ (k : Int) < (k : Int) := by omega
     obtain ⟨ls,h1,h2⟩ := HM.out
     rw [List.take_of_length_le (by rw [HN.out];exact Nat.le_refl _)] at h1
     obtain ⟨g,hA2,hg,hcell⟩ := own_cell hown (by omega)
     subst hA2
     have hdl : dn.length = k + 1 := by have := hown.1;simpa using this
     have HDL := Lib.hid hdl
     obtain ⟨tt,htt⟩ : ∃ t,dn.flatten = t := ⟨_,rfl⟩
     have hT2 : rs = if 1048576 < tt.length then .error 221 else .ok tt := by
      have e : (([culv,decW sec] :: ls).map lineT).flatten = tt := by rw [List.map_cons,HT2.out,← h2,htt]
      rw [HPS.out,h1]
      simp only [e]
     have HT3 := Lib.hid hT2
     have httl : tt.length ≤ 1000500000000 := by rw [← htt];exact Nat.le_trans (flat_le 500000000 dn HL.out) (by rw [hdl];omega)
     have HJ := Lib.hid (join_own4 dn tt htt hown (by omega) (by omega))
     have HTT := Lib.hid htt
     have HCE : Hid (∀ j y,dn[j]? = some y → wr.cell? ⟨g,j,none⟩ = some (.string ⟨y.toArray⟩)) := Lib.hid (fun j y hy => by
      have hj := (List.getElem?_eq_some_iff.1 hy).1
      have := hcell j (by omega)
      rw [Nat.zero_add,List.getElem?_map,hy] at this
      exact this)
     clear hT2 htt h1 h2 hcell hown
     go_wp2
     go_loopw [5,52] (fun a b w' => ∃ (j S : Nat),j ≤ k + 1 ∧ a = .int .i64 (S : Int) ∧ b = .int .i64 (j : Int) ∧ Hid (S = (dn.take j).flatten.length) ∧ S ≤ 500000000 * j ∧ w' = wr) (fun _ b _ => k + 1 - (intOf b).toNat)
     case atStart => exact ⟨0,0,Nat.zero_le _,rfl,rfl,Lib.hid rfl,by omega,rfl⟩
     case round =>
      obtain ⟨j,S,hj,rfl,rfl,HS,hSb,rfl⟩ := hrel
      by_cases hjl : j < k + 1
      ·have i1 : (j : Int) < (k : Int) + 1 := by omega
       obtain ⟨y,hy⟩ : ∃ y,dn[j]? = some y := ⟨_,List.getElem?_eq_getElem (by rw [HDL.out];exact hjl)⟩
       have cy := HCE.out j y hy
       have hyl := HL.out y (List.mem_of_getElem? hy)
       have HS2 : Hid (S + y.length = (dn.take (j + 1)).flatten.length) := Lib.hid (by rw [(take_snoc hy).1,List.flatten_append,List.length_append,← HS.out];simp)
       clear hy
       go_wp2
       go_roundw
       case rel => exact ⟨j + 1,S + y.length,by omega,by go_num,by go_num,HS2,by omega,by first | trivial | rfl⟩
       case measure => simp [intOf];omega
      ·obtain rfl : j = k + 1 := by omega
       have i1 : ¬ ((k + 1 : Nat) : Int) < (k : Int) + 1 := by omega
       have hS2 : S = tt.length := by rw [HS.out,List.take_of_length_le (by rw [HDL.out];exact Nat.le_refl _),HTT.out]
       subst hS2
       by_cases e : 1048576 < tt.length
       ·have HE : Hid (rs = .error 221) := Lib.hid (by rw [HT3.out,if_pos e])
        have i2 : (1048576 : Int) < (tt.length : Int) := by omega
        clear e
        go_wp2
        go_ret2
        exact ⟨by rw [HE.out];exact rfl,hbl⟩
       ·have HE : Hid (rs = .ok tt) := Lib.hid (by rw [HT3.out,if_neg e])
        have i2 : ¬ (1048576 : Int) < (tt.length : Int) := by omega
        clear e
        go_wp2_with (go_at_call 37;refine HJ.out.mono ?_;rintro e w2 ⟨rfl,hb2⟩)
        go_ret2
        exact ⟨by rw [HE.out];exact rfl,hbl.trans (hb2.mono hbl.size)⟩
end Go.Proofs.YtpkmekdpmkfcdaaGreatDoor.Sr
namespace Go.Proofs.YtpkmekdpmkfcdaaGreatDoor.Sr
set_option linter.unusedVariables false
set_option linter.unusedSimpArgs false
open Go.RowKit Go.Proofs.YtpkmekdpmkfcdaaGreatDoor.Wd Go.Proofs.YtpkmekdpmkfcdaaGreatDoor.Px Go.Proofs.YtpkmekdpmkfcdaaGreatDoor.By Go.Proofs.YtpkmekdpmkfcdaaGreatDoor.En Go.Proofs.YtpkmekdpmkfcdaaGreatDoor.Pl Go.Proofs.YtpkmekdpmkfcdaaGreatDoor.Pf Go.Proofs.YtpkmekdpmkfcdaaGreatDoor.Sc
theorem bytes_same {l : List UInt8} {n : Nat} (hn : Hid (l.length = n)) (A B : Option Addr) (c d : Nat) (w : World) (hl : n ≤ 2000000) (ha : Shows cel w w.heap.size A l) (hb : Shows cel w w.heap.size B l) :
  Calls Tryz.prog 62 #[.slice A n c,.slice B n d] w fun e w' => e = .returned (.bool true) ∧ Below w.heap.size w w' := by
 have hn := hn.out
 subst hn
 have := By.same_any l l A B c d w (by omega) ha hb
 simpa using this
theorem stamp_same (s n : Int) (w : World) : Calls Tryz.prog 168 #[.agg #[.int .i64 s,.int .i64 n],.agg #[.int .i64 s,.int .i64 n]] w fun e w' => e = .returned (.bool true) ∧ Below w.heap.size w w' := by
 have := St.same_any s n s n w
 rwa [show St.sam s n s n = true by simp [St.sam]] at this
theorem prefix_same (f h l b : Int) (w : World) : Calls Tryz.prog 63 #[.agg #[.int .i64 f,.int .u64 h,.int .u64 l,.int .i64 b],.agg #[.int .i64 f,.int .u64 h,.int .u64 l,.int .i64 b]] w fun e w' => e = .returned (.bool true) ∧ Below w.heap.size w w' := by
 have := samepre_any f h l b f h l b w
 rwa [show smP f h l b f h l b = true by simp [smP,smA]] at this
set_option maxHeartbeats 400000 in
theorem bools_same {l : List Bool} {n : Nat} (hn : Hid (l.length = n)) (A B : Option Addr) (c d : Nat) (w : World) (hl : n ≤ 2000000) (ha : Shows Value.bool w w.heap.size A l) (hb : Shows Value.bool w w.heap.size B l) :
  Calls Tryz.prog 170 #[.slice A n c,.slice B n d] w fun e w' => e = .returned (.bool true) ∧ Below w.heap.size w w' := by
 go_enter Tryz.func170,Tryz.ntmps170
 go_wp2
 go_loopw [5] (fun i wr => ∃ k q : Nat,k ≤ n ∧ i = .int .i64 (k : Int) ∧ wr = w.drewN q) (fun i _ => n - (intOf i).toNat)
 case atStart => exact ⟨0,0,Nat.zero_le _,rfl,rfl⟩
 case round =>
  obtain ⟨k,q,hk,rfl,rfl⟩ := hrel
  by_cases hlt : k < n
  ·have hlt2 : k < l.length := by rw [hn.out];exact hlt
   obtain ⟨b,o,rfl,_,hc1⟩ := ha.at_ hlt2
   obtain ⟨b',o',rfl,_,hc2⟩ := hb.at_ hlt2
   obtain ⟨x,hx⟩ : ∃ x,l[k] = x := ⟨_,rfl⟩
   rw [hx] at hc1 hc2
   clear hx
   have i1 : (k : Int) < (n : Int) := by omega
   cases x
   all_goals
    go_wp2
    go_quiet (fail)
    go_wp2
    go_roundw
    case rel => exact ⟨k + 1,_,by omega,by go_num,rfl⟩
    case measure => simp [intOf];omega
  ·have i1 : ¬ (k : Int) < (n : Int) := by omega
   go_wp2
   go_ret
   exact ⟨rfl,below_of_drewN _⟩
set_option maxHeartbeats 400000 in
theorem faults_same {l : List (Int × Int)} {n : Nat} (hn : Hid (l.length = n)) (A B : Option Addr) (c d : Nat) (w : World) (hl : n ≤ 2000000) (ha : ShF w A l) (hb : ShF w B l) :
  Calls Tryz.prog 169 #[.slice A n c,.slice B n d] w fun e w' => e = .returned (.bool true) ∧ Below w.heap.size w w' := by
 go_enter Tryz.func169,Tryz.ntmps169
 go_wp2
 go_loopw [5] (fun i wr => ∃ k q : Nat,k ≤ n ∧ i = .int .i64 (k : Int) ∧ wr = w.drewN q) (fun i _ => n - (intOf i).toNat)
 case atStart => exact ⟨0,0,Nat.zero_le _,rfl,rfl⟩
 case round =>
  obtain ⟨k,q,hk,rfl,rfl⟩ := hrel
  by_cases hlt : k < n
  ·have hlt2 : k < l.length := by rw [hn.out];exact hlt
   obtain ⟨b,o,rfl,_,hc1⟩ := ha (by omega)
   obtain ⟨b',o',rfl,_,hc2⟩ := hb (by omega)
   obtain ⟨⟨fa,fk⟩,hf⟩ : ∃ f,l[k]? = some f := ⟨_,List.getElem?_eq_getElem hlt2⟩
   obtain ⟨u0,u1⟩ := hc1 k _ hf
   obtain ⟨v0,v1⟩ := hc2 k _ hf
   simp only at u0 u1 v0 v1
   clear hf hc1 hc2
   have i1 : (k : Int) < (n : Int) := by omega
   go_wp2
   go_quiet (fail)
   go_wp2
   go_roundw
   case rel => exact ⟨k + 1,_,by omega,by go_num,rfl⟩
   case measure => simp [intOf];omega
  ·have i1 : ¬ (k : Int) < (n : Int) := by omega
   go_wp2
   go_ret
   exact ⟨rfl,below_of_drewN _⟩
set_option maxRecDepth 20000 in
set_option maxHeartbeats 1000000 in
theorem change_same (c : Chg) {n : Nat} (hn : Hid (c.key.length = n)) (A1 A2 : Option Addr) (c1 c2 : Nat) (w : World) (hl : n ≤ 2000000) (ha : Shows cel w w.heap.size A1 c.key) (hb : Shows cel w w.heap.size A2 c.key) :
  Calls Tryz.prog 35 #[.agg (chC c (.slice A1 n c1)),.agg (chC c (.slice A2 n c2))] w fun e w' => e = .returned (.bool true) ∧ Below w.heap.size w w' := by
 obtain ⟨ck,lk,sd,key,pf,ph,pl,pq⟩ := c
 have hb0 : Below w.heap.size w ((w.alloc (.cells #[.int .i64 ck,.int .i64 lk,.int .i64 sd,.slice A1 n c1,.int .i64 pf,.int .u64 (ph : Int),.int .u64 (pl : Int),.int .i64 pq] 92)).alloc (.cells #[.int .i64 ck,.int .i64 lk,.int .i64 sd,.slice A2 n c2,.int .i64 pf,.int .u64 (ph : Int),.int .u64 (pl : Int),.int .i64 pq] 92)) := (one w _).alloc (by simp) _
 have hP : Blk w.heap.size #[.int .i64 ck,.int .i64 lk,.int .i64 sd,.slice A1 n c1,.int .i64 pf,.int .u64 (ph : Int),.int .u64 (pl : Int),.int .i64 pq] 92 ((w.alloc (.cells #[.int .i64 ck,.int .i64 lk,.int .i64 sd,.slice A1 n c1,.int .i64 pf,.int .u64 (ph : Int),.int .u64 (pl : Int),.int .i64 pq] 92)).alloc (.cells #[.int .i64 ck,.int .i64 lk,.int .i64 sd,.slice A2 n c2,.int .i64 pf,.int .u64 (ph : Int),.int .u64 (pl : Int),.int .i64 pq] 92)) := Blk.on (blk_new w _ _) (one _ _)
 have hQ : Blk (w.heap.size + 1) #[.int .i64 ck,.int .i64 lk,.int .i64 sd,.slice A2 n c2,.int .i64 pf,.int .u64 (ph : Int),.int .u64 (pl : Int),.int .i64 pq] 92 ((w.alloc (.cells #[.int .i64 ck,.int .i64 lk,.int .i64 sd,.slice A1 n c1,.int .i64 pf,.int .u64 (ph : Int),.int .u64 (pl : Int),.int .i64 pq] 92)).alloc (.cells #[.int .i64 ck,.int .i64 lk,.int .i64 sd,.slice A2 n c2,.int .i64 pf,.int .u64 (ph : Int),.int .u64 (pl : Int),.int .i64 pq] 92)) := by
  have := blk_new (w.alloc (.cells #[.int .i64 ck,.int .i64 lk,.int .i64 sd,.slice A1 n c1,.int .i64 pf,.int .u64 (ph : Int),.int .u64 (pl : Int),.int .i64 pq] 92)) #[.int .i64 ck,.int .i64 lk,.int .i64 sd,.slice A2 n c2,.int .i64 pf,.int .u64 (ph : Int),.int .u64 (pl : Int),.int .i64 pq] 92
  rwa [World.size_alloc] at this
 simp only [chC]
 go_enter Tryz.func35,Tryz.ntmps35
 go_upto_region 1 with fail
 generalize ((w.alloc (.cells #[.int .i64 ck,.int .i64 lk,.int .i64 sd,.slice A1 n c1,.int .i64 pf,.int .u64 (ph : Int),.int .u64 (pl : Int),.int .i64 pq] 92)).alloc (.cells #[.int .i64 ck,.int .i64 lk,.int .i64 sd,.slice A2 n c2,.int .i64 pf,.int .u64 (ph : Int),.int .u64 (pl : Int),.int .i64 pq] 92)) = W0 at hb0 hP hQ ⊢
 have e3 : W0.cell? ⟨w.heap.size,3,none⟩ = some (.slice A1 n c1) := hP.cell rfl
 have g3 : W0.cell? ⟨w.heap.size + 1,3,none⟩ = some (.slice A2 n c2) := hQ.cell rfl
 have hca := bytes_same hn A1 A2 c1 c2 W0 hl (ha.on hb0) (hb.on hb0)
 go_wp2_with (first
  | (go_at_call 62;refine hca.mono ?_;rintro e w3 ⟨rfl,hb3⟩;have e4 : w3.cell? ⟨w.heap.size,4,none⟩ = some (.int .i64 pf) := (hP.on hb3).cell rfl;have e5 : w3.cell? ⟨w.heap.size,5,none⟩ = some (.int .u64 (ph : Int)) := (hP.on hb3).cell rfl;have e6 : w3.cell? ⟨w.heap.size,6,none⟩ = some (.int .u64 (pl : Int)) := (hP.on hb3).cell rfl;have e7 : w3.cell? ⟨w.heap.size,7,none⟩ = some (.int .i64 pq) := (hP.on hb3).cell rfl;have g4 : w3.cell? ⟨w.heap.size + 1,4,none⟩ = some (.int .i64 pf) := (hQ.on hb3).cell rfl;have g5 : w3.cell? ⟨w.heap.size + 1,5,none⟩ = some (.int .u64 (ph : Int)) := (hQ.on hb3).cell rfl;have g6 : w3.cell? ⟨w.heap.size + 1,6,none⟩ = some (.int .u64 (pl : Int)) := (hQ.on hb3).cell rfl;have g7 : w3.cell? ⟨w.heap.size + 1,7,none⟩ = some (.int .i64 pq) := (hQ.on hb3).cell rfl)
  | (go_at_call 63;refine (prefix_same _ _ _ _ _).mono ?_;rintro e w4 ⟨rfl,hb4⟩;have e0 : w4.cell? ⟨w.heap.size,0,none⟩ = some (.int .i64 ck) := ((hP.on hb3).on hb4).cell rfl;have e1 : w4.cell? ⟨w.heap.size,1,none⟩ = some (.int .i64 lk) := ((hP.on hb3).on hb4).cell rfl;have e2 : w4.cell? ⟨w.heap.size,2,none⟩ = some (.int .i64 sd) := ((hP.on hb3).on hb4).cell rfl;have g0 : w4.cell? ⟨w.heap.size + 1,0,none⟩ = some (.int .i64 ck) := ((hQ.on hb3).on hb4).cell rfl;have g1 : w4.cell? ⟨w.heap.size + 1,1,none⟩ = some (.int .i64 lk) := ((hQ.on hb3).on hb4).cell rfl;have g2 : w4.cell? ⟨w.heap.size + 1,2,none⟩ = some (.int .i64 sd) := ((hQ.on hb3).on hb4).cell rfl))
 go_ret
 exact ⟨rfl,(hb0.trans (hb3.mono hb0.size)).trans (hb4.mono (hb0.trans (hb3.mono hb0.size)).size)⟩
set_option maxRecDepth 20000 in
set_option maxHeartbeats 1000000 in
theorem changes_same {l : List Chg} {n : Nat} (hn : Hid (l.length = n)) (kvs kvs' : List Value) (A B : Option Addr) (c d : Nat) (w : World) (hl : n ≤ 2000000) (ha : ShC w A l kvs) (hb : ShC w B l kvs') (hL : ∀ c ∈ l,Lim c) :
  Calls Tryz.prog 13 #[.slice A n c,.slice B n d] w fun e w' => e = .returned (.bool true) ∧ Below w.heap.size w w' := by
 go_enter Tryz.func13,Tryz.ntmps13
 go_wp2
 go_loopw [5] (fun i wr => ∃ k : Nat,k ≤ n ∧ i = .int .i64 (k : Int) ∧ Below w.heap.size w wr) (fun i _ => n - (intOf i).toNat)
 case atStart => exact ⟨0,Nat.zero_le _,rfl,Below.refl _ _⟩
 case round =>
  obtain ⟨k,hk,rfl,hbl⟩ := hrel
  by_cases hlt : k < n
  ·have hlt2 : k < l.length := by rw [hn.out];exact hlt
   obtain ⟨b,o,rfl,q1,hc1⟩ := ha.cells (by omega)
   obtain ⟨b',o',rfl,q2,hc2⟩ := hb.cells (by omega)
   obtain ⟨ch,hf⟩ : ∃ f,l[k]? = some f := ⟨_,List.getElem?_eq_getElem hlt2⟩
   obtain ⟨kv,hkv⟩ : ∃ f,kvs[k]? = some f := ⟨_,List.getElem?_eq_getElem (by rw [ha.len];exact hlt2)⟩
   obtain ⟨kv',hkv'⟩ : ∃ f,kvs'[k]? = some f := ⟨_,List.getElem?_eq_getElem (by rw [hb.len];exact hlt2)⟩
   obtain ⟨A1,c1,rfl,g1,s1⟩ := ha.key k ch kv hf hkv
   obtain ⟨A2,c2,rfl,g2,s2⟩ := hb.key k ch kv' hf hkv'
   have hLc := (hL ch (List.mem_of_getElem? hf)).key
   have d1 : ∀ (j : Nat) u,(chC ch (.slice A1 ch.key.length c1))[j]? = some u → ∀ x : After wr,x.w.cell? ⟨b,o + k * 8 + j,none⟩ = some u := fun j u h => after_cell ((hbl.cell (p := ⟨b,o + k * 8 + j,none⟩) q1).trans (hc1 k _ _ hf hkv j u h))
   have d2 : ∀ (j : Nat) u,(chC ch (.slice A2 ch.key.length c2))[j]? = some u → ∀ x : After wr,x.w.cell? ⟨b',o' + k * 8 + j,none⟩ = some u := fun j u h => after_cell ((hbl.cell (p := ⟨b',o' + k * 8 + j,none⟩) q2).trans (hc2 k _ _ hf hkv' j u h))
   obtain ⟨m,hm⟩ : ∃ m,ch.key.length = m := ⟨_,rfl⟩
   have HM := Lib.hid hm
   have hcall : ∀ x : After wr,Calls Tryz.prog 35 #[.agg (chC ch (.slice A1 m c1)),.agg (chC ch (.slice A2 m c2))] x.w fun e w' => e = .returned (.bool true) ∧ Below x.w.heap.size x.w w' := fun x =>
    change_same ch HM A1 A2 c1 c2 x.w (by omega) ((s1.on hbl).on x.b) ((s2.on hbl).on x.b)
   rw [hm] at d1 d2
   clear hm hf hkv hkv' hc1 hc2 s1 s2 g1 g2
   have e0 : ∀ x : After wr,x.w.cell? ⟨b,o + k * 8 + 0,none⟩ = some (.int .i64 ch.kind) := d1 0 _ rfl
   have g0 : ∀ x : After wr,x.w.cell? ⟨b',o' + k * 8 + 0,none⟩ = some (.int .i64 ch.kind) := d2 0 _ rfl
   have e1 : ∀ x : After wr,x.w.cell? ⟨b,o + k * 8 + 1,none⟩ = some (.int .i64 ch.link) := d1 1 _ rfl
   have g1 : ∀ x : After wr,x.w.cell? ⟨b',o' + k * 8 + 1,none⟩ = some (.int .i64 ch.link) := d2 1 _ rfl
   have e2 : ∀ x : After wr,x.w.cell? ⟨b,o + k * 8 + 2,none⟩ = some (.int .i64 ch.side) := d1 2 _ rfl
   have g2 : ∀ x : After wr,x.w.cell? ⟨b',o' + k * 8 + 2,none⟩ = some (.int .i64 ch.side) := d2 2 _ rfl
   have e3 : ∀ x : After wr,x.w.cell? ⟨b,o + k * 8 + 3,none⟩ = some (.slice A1 m c1) := d1 3 _ rfl
   have g3 : ∀ x : After wr,x.w.cell? ⟨b',o' + k * 8 + 3,none⟩ = some (.slice A2 m c2) := d2 3 _ rfl
   have e4 : ∀ x : After wr,x.w.cell? ⟨b,o + k * 8 + 4,none⟩ = some (.int .i64 ch.pf) := d1 4 _ rfl
   have g4 : ∀ x : After wr,x.w.cell? ⟨b',o' + k * 8 + 4,none⟩ = some (.int .i64 ch.pf) := d2 4 _ rfl
   have e5 : ∀ x : After wr,x.w.cell? ⟨b,o + k * 8 + 5,none⟩ = some (.int .u64 (ch.ph : Int)) := d1 5 _ rfl
   have g5 : ∀ x : After wr,x.w.cell? ⟨b',o' + k * 8 + 5,none⟩ = some (.int .u64 (ch.ph : Int)) := d2 5 _ rfl
   have e6 : ∀ x : After wr,x.w.cell? ⟨b,o + k * 8 + 6,none⟩ = some (.int .u64 (ch.pl : Int)) := d1 6 _ rfl
   have g6 : ∀ x : After wr,x.w.cell? ⟨b',o' + k * 8 + 6,none⟩ = some (.int .u64 (ch.pl : Int)) := d2 6 _ rfl
   have e7 : ∀ x : After wr,x.w.cell? ⟨b,o + k * 8 + 7,none⟩ = some (.int .i64 ch.pb) := d1 7 _ rfl
   have g7 : ∀ x : After wr,x.w.cell? ⟨b',o' + k * 8 + 7,none⟩ = some (.int .i64 ch.pb) := d2 7 _ rfl
   simp only [chC] at hcall
   rw [Nat.add_zero] at e0 g0
   have i1 : (k : Int) < (n : Int) := by omega
   clear d1 d2
   go_upto_region 6 with fail
   refine wp_region_after (by kernel_rfl) (by kernel_rfl) ?_
   repeat (go_big_quiet_step ((go_at_call 35;with_reducible exact after_of (hcall _))))
   refine wpQuiet_nil ?_
   rintro _ ⟨x,rfl⟩
   have hb2 := hbl.trans (x.b.mono hbl.size)
   generalize x.w = w5 at hb2 ⊢
   clear e0 e1 e2 e3 e4 e5 e6 e7 g0 g1 g2 g3 g4 g5 g6 g7 hcall
   go_wp2
   go_roundw
   case rel => exact ⟨k + 1,by omega,by go_num,hb2⟩
   case measure => simp [intOf];omega
  ·have i1 : ¬ (k : Int) < (n : Int) := by omega
   go_wp2
   go_ret
   exact ⟨rfl,hbl⟩
set_option maxRecDepth 100000 in
set_option maxHeartbeats 4000000 in
theorem op_same (o : Opp) (dv cv fv bv : Value) (kvs : List Value) (dv' cv' fv' bv' : Value) (kvs' : List Value) (w : World) (hL : LimO o) (ha : ShOp w o dv cv fv bv kvs) (hb : ShOp w o dv' cv' fv' bv' kvs') :
  Calls Tryz.prog 81 #[.agg (opC o dv cv fv bv),.agg (opC o dv' cv' fv' bv')] w fun e w' => e = .returned (.bool true) ∧ Below w.heap.size w w' := by
 obtain ⟨ko,a,k,t,x,link,data,sec,nano,blk,wid,chs,fls,keep⟩ := o
 obtain ⟨l0,l1,l2,l3,l4,l5⟩ := hL
 obtain ⟨⟨A1,c1,rfl,h1,s1⟩,⟨A2,c2,rfl,h2,s2⟩,⟨A3,c3,rfl,h3,s3⟩,⟨A4,c4,rfl,h4,s4⟩⟩ := ha
 obtain ⟨⟨B1,d1,rfl,k1,r1⟩,⟨B2,d2,rfl,k2,r2⟩,⟨B3,d3,rfl,k3,r3⟩,⟨B4,d4,rfl,k4,r4⟩⟩ := hb
 simp only at l0 l1 l2 l3 l4 l5 h1 h2 h3 h4 s1 s2 s3 s4 k1 k2 k3 k4 r1 r2 r3 r4
 simp only [opC]
 obtain ⟨n1,e1⟩ : ∃ n,data.length = n := ⟨_,rfl⟩
 obtain ⟨n2,e2⟩ : ∃ n,chs.length = n := ⟨_,rfl⟩
 obtain ⟨n3,e3⟩ : ∃ n,fls.length = n := ⟨_,rfl⟩
 obtain ⟨n4,e4⟩ : ∃ n,keep.length = n := ⟨_,rfl⟩
 rw [e1] at l1;rw [e2] at l2;rw [e3] at l3;rw [e4] at l4
 rw [e1,e2,e3,e4]
 have HN1 := Lib.hid e1
 have HN2 := Lib.hid e2
 have HN3 := Lib.hid e3
 have HN4 := Lib.hid e4
 clear e1 e2 e3 e4 h1 h2 h3 h4 k1 k2 k3 k4
 have hb0 : Below w.heap.size w ((w.alloc (.cells #[.int .i64 ko,.int .i64 a,.int .i64 k,.int .i64 t,.int .i64 x,.int .i64 link,.slice A1 n1 c1,.int .i64 sec,.int .i64 nano,.int .i64 blk,.int .i64 wid,.slice A2 n2 c2,.slice A3 n3 c3,.slice A4 n4 c4] 108)).alloc (.cells #[.int .i64 ko,.int .i64 a,.int .i64 k,.int .i64 t,.int .i64 x,.int .i64 link,.slice B1 n1 d1,.int .i64 sec,.int .i64 nano,.int .i64 blk,.int .i64 wid,.slice B2 n2 d2,.slice B3 n3 d3,.slice B4 n4 d4] 108)) := (one w _).alloc (by simp) _
 have hP : Blk w.heap.size #[.int .i64 ko,.int .i64 a,.int .i64 k,.int .i64 t,.int .i64 x,.int .i64 link,.slice A1 n1 c1,.int .i64 sec,.int .i64 nano,.int .i64 blk,.int .i64 wid,.slice A2 n2 c2,.slice A3 n3 c3,.slice A4 n4 c4] 108 ((w.alloc (.cells #[.int .i64 ko,.int .i64 a,.int .i64 k,.int .i64 t,.int .i64 x,.int .i64 link,.slice A1 n1 c1,.int .i64 sec,.int .i64 nano,.int .i64 blk,.int .i64 wid,.slice A2 n2 c2,.slice A3 n3 c3,.slice A4 n4 c4] 108)).alloc (.cells #[.int .i64 ko,.int .i64 a,.int .i64 k,.int .i64 t,.int .i64 x,.int .i64 link,.slice B1 n1 d1,.int .i64 sec,.int .i64 nano,.int .i64 blk,.int .i64 wid,.slice B2 n2 d2,.slice B3 n3 d3,.slice B4 n4 d4] 108)) := Blk.on (blk_new w _ _) (one _ _)
 have hQ : Blk (w.heap.size + 1) #[.int .i64 ko,.int .i64 a,.int .i64 k,.int .i64 t,.int .i64 x,.int .i64 link,.slice B1 n1 d1,.int .i64 sec,.int .i64 nano,.int .i64 blk,.int .i64 wid,.slice B2 n2 d2,.slice B3 n3 d3,.slice B4 n4 d4] 108 ((w.alloc (.cells #[.int .i64 ko,.int .i64 a,.int .i64 k,.int .i64 t,.int .i64 x,.int .i64 link,.slice A1 n1 c1,.int .i64 sec,.int .i64 nano,.int .i64 blk,.int .i64 wid,.slice A2 n2 c2,.slice A3 n3 c3,.slice A4 n4 c4] 108)).alloc (.cells #[.int .i64 ko,.int .i64 a,.int .i64 k,.int .i64 t,.int .i64 x,.int .i64 link,.slice B1 n1 d1,.int .i64 sec,.int .i64 nano,.int .i64 blk,.int .i64 wid,.slice B2 n2 d2,.slice B3 n3 d3,.slice B4 n4 d4] 108)) := by
  have := blk_new (w.alloc (.cells #[.int .i64 ko,.int .i64 a,.int .i64 k,.int .i64 t,.int .i64 x,.int .i64 link,.slice A1 n1 c1,.int .i64 sec,.int .i64 nano,.int .i64 blk,.int .i64 wid,.slice A2 n2 c2,.slice A3 n3 c3,.slice A4 n4 c4] 108)) #[.int .i64 ko,.int .i64 a,.int .i64 k,.int .i64 t,.int .i64 x,.int .i64 link,.slice B1 n1 d1,.int .i64 sec,.int .i64 nano,.int .i64 blk,.int .i64 wid,.slice B2 n2 d2,.slice B3 n3 d3,.slice B4 n4 d4] 108
  rwa [World.size_alloc] at this
 go_enter Tryz.func81,Tryz.ntmps81
 go_upto_region 1 with fail
 generalize ((w.alloc (.cells #[.int .i64 ko,.int .i64 a,.int .i64 k,.int .i64 t,.int .i64 x,.int .i64 link,.slice A1 n1 c1,.int .i64 sec,.int .i64 nano,.int .i64 blk,.int .i64 wid,.slice A2 n2 c2,.slice A3 n3 c3,.slice A4 n4 c4] 108)).alloc (.cells #[.int .i64 ko,.int .i64 a,.int .i64 k,.int .i64 t,.int .i64 x,.int .i64 link,.slice B1 n1 d1,.int .i64 sec,.int .i64 nano,.int .i64 blk,.int .i64 wid,.slice B2 n2 d2,.slice B3 n3 d3,.slice B4 n4 d4] 108)) = W0 at hb0 hP hQ ⊢
 have s1 := s1.on hb0
 have r1 := r1.on hb0
 have HS2 := Lib.hid (s2.on hb0)
 have HR2 := Lib.hid (r2.on hb0)
 have HS3 := Lib.hid (s3.on hb0)
 have HR3 := Lib.hid (r3.on hb0)
 have HS4 := Lib.hid (s4.on hb0)
 have HR4 := Lib.hid (r4.on hb0)
 clear s2 r2 s3 r3 s4 r4
 have HL5 := Lib.hid l5
 clear l5
 have e6 : W0.cell? ⟨w.heap.size,6,none⟩ = some (.slice A1 n1 c1) := hP.cell rfl
 have g6 : W0.cell? ⟨w.heap.size + 1,6,none⟩ = some (.slice B1 n1 d1) := hQ.cell rfl
 go_wp2_with (first
  | (go_at_call 62;refine (bytes_same HN1 A1 B1 c1 d1 W0 l1 s1 r1).mono ?_;rintro e w1 ⟨rfl,hb1⟩;have hP1 := hP.on hb1;have hQ1 := hQ.on hb1;have e7 : w1.cell? ⟨w.heap.size,7,none⟩ = some (.int .i64 sec) := hP1.cell rfl;have e8 : w1.cell? ⟨w.heap.size,8,none⟩ = some (.int .i64 nano) := hP1.cell rfl;have g7 : w1.cell? ⟨w.heap.size + 1,7,none⟩ = some (.int .i64 sec) := hQ1.cell rfl;have g8 : w1.cell? ⟨w.heap.size + 1,8,none⟩ = some (.int .i64 nano) := hQ1.cell rfl)
  | (go_at_call 168;refine (stamp_same _ _ _).mono ?_;rintro e w2 ⟨rfl,hb2⟩;have ha2 := hb1.trans (hb2.mono hb1.size);have hP2 := hP.on ha2;have hQ2 := hQ.on ha2;have e11 : w2.cell? ⟨w.heap.size,11,none⟩ = some (.slice A2 n2 c2) := hP2.cell rfl;have g11 : w2.cell? ⟨w.heap.size + 1,11,none⟩ = some (.slice B2 n2 d2) := hQ2.cell rfl)
  | (go_at_call 13;refine (changes_same HN2 kvs kvs' A2 B2 c2 d2 w2 l2 (HS2.out.on ha2) (HR2.out.on ha2) HL5.out).mono ?_;rintro e w3 ⟨rfl,hb3⟩;have ha3 := ha2.trans (hb3.mono ha2.size);have hP3 := hP.on ha3;have hQ3 := hQ.on ha3;have e12 : w3.cell? ⟨w.heap.size,12,none⟩ = some (.slice A3 n3 c3) := hP3.cell rfl;have g12 : w3.cell? ⟨w.heap.size + 1,12,none⟩ = some (.slice B3 n3 d3) := hQ3.cell rfl)
  | (go_at_call 169;refine (faults_same HN3 A3 B3 c3 d3 w3 l3 (HS3.out.on ha3) (HR3.out.on ha3)).mono ?_;rintro e w4 ⟨rfl,hb4⟩;have ha4 := ha3.trans (hb4.mono ha3.size);have hP4 := hP.on ha4;have hQ4 := hQ.on ha4;have e13 : w4.cell? ⟨w.heap.size,13,none⟩ = some (.slice A4 n4 c4) := hP4.cell rfl;have g13 : w4.cell? ⟨w.heap.size + 1,13,none⟩ = some (.slice B4 n4 d4) := hQ4.cell rfl)
  | (go_at_call 170;refine (bools_same HN4 A4 B4 c4 d4 w4 l4 (HS4.out.on ha4) (HR4.out.on ha4)).mono ?_;rintro e w5 ⟨rfl,hb5⟩;have ha5 := ha4.trans (hb5.mono ha4.size);have hP5 := hP.on ha5;have hQ5 := hQ.on ha5;have e0 : w5.cell? ⟨w.heap.size,0,none⟩ = some (.int .i64 ko) := hP5.cell rfl;have e1 : w5.cell? ⟨w.heap.size,1,none⟩ = some (.int .i64 a) := hP5.cell rfl;have e2 : w5.cell? ⟨w.heap.size,2,none⟩ = some (.int .i64 k) := hP5.cell rfl;have e3 : w5.cell? ⟨w.heap.size,3,none⟩ = some (.int .i64 t) := hP5.cell rfl;have e4 : w5.cell? ⟨w.heap.size,4,none⟩ = some (.int .i64 x) := hP5.cell rfl;have e5 : w5.cell? ⟨w.heap.size,5,none⟩ = some (.int .i64 link) := hP5.cell rfl;have e9 : w5.cell? ⟨w.heap.size,9,none⟩ = some (.int .i64 blk) := hP5.cell rfl;have e10 : w5.cell? ⟨w.heap.size,10,none⟩ = some (.int .i64 wid) := hP5.cell rfl;have g0 : w5.cell? ⟨w.heap.size + 1,0,none⟩ = some (.int .i64 ko) := hQ5.cell rfl;have g1 : w5.cell? ⟨w.heap.size + 1,1,none⟩ = some (.int .i64 a) := hQ5.cell rfl;have g2 : w5.cell? ⟨w.heap.size + 1,2,none⟩ = some (.int .i64 k) := hQ5.cell rfl;have g3 : w5.cell? ⟨w.heap.size + 1,3,none⟩ = some (.int .i64 t) := hQ5.cell rfl;have g4 : w5.cell? ⟨w.heap.size + 1,4,none⟩ = some (.int .i64 x) := hQ5.cell rfl;have g5 : w5.cell? ⟨w.heap.size + 1,5,none⟩ = some (.int .i64 link) := hQ5.cell rfl;have g9 : w5.cell? ⟨w.heap.size + 1,9,none⟩ = some (.int .i64 blk) := hQ5.cell rfl;have g10 : w5.cell? ⟨w.heap.size + 1,10,none⟩ = some (.int .i64 wid) := hQ5.cell rfl))
 go_ret
 exact ⟨rfl,hb0.trans (ha5.mono hb0.size)⟩
set_option maxRecDepth 100000 in
set_option maxHeartbeats 4000000 in
theorem ops_same {l : List Opp} {n : Nat} (hn : Hid (l.length = n)) (vs vs' : List Opv) (A B : Option Addr) (c d : Nat) (w : World) (hl : n ≤ 2000000) (ha : ShO w A l vs) (hb : ShO w B l vs') (hL : ∀ o ∈ l,LimO o) :
  Calls Tryz.prog 43 #[.slice A n c,.slice B n d] w fun e w' => e = .returned (.bool true) ∧ Below w.heap.size w w' := by
 go_enter Tryz.func43,Tryz.ntmps43
 go_wp2
 go_loopw [5] (fun i wr => ∃ k : Nat,k ≤ n ∧ i = .int .i64 (k : Int) ∧ Below w.heap.size w wr) (fun i _ => n - (intOf i).toNat)
 case atStart => exact ⟨0,Nat.zero_le _,rfl,Below.refl _ _⟩
 case round =>
  obtain ⟨k,hk,rfl,hbl⟩ := hrel
  by_cases hlt : k < n
  ·have hlt2 : k < l.length := by rw [hn.out];exact hlt
   obtain ⟨b,o,rfl,q1,hc1⟩ := ha.cells (by omega)
   obtain ⟨b',o',rfl,q2,hc2⟩ := hb.cells (by omega)
   obtain ⟨op,hf⟩ : ∃ f,l[k]? = some f := ⟨_,List.getElem?_eq_getElem hlt2⟩
   obtain ⟨⟨dv,cv,fv,bv,kvs,z1,z2⟩,hx⟩ : ∃ f,vs[k]? = some f := ⟨_,List.getElem?_eq_getElem (by rw [ha.len];exact hlt2)⟩
   obtain ⟨⟨dv',cv',fv',bv',kvs',z3,z4⟩,hx'⟩ : ∃ f,vs'[k]? = some f := ⟨_,List.getElem?_eq_getElem (by rw [hb.len];exact hlt2)⟩
   have s1 := ha.each k op _ hf hx
   have s2 := hb.each k op _ hf hx'
   have hLc := hL op (List.mem_of_getElem? hf)
   have d1 : ∀ (j : Nat) u,(opC op dv cv fv bv)[j]? = some u → ∀ x : After wr,x.w.cell? ⟨b,o + k * 14 + j,none⟩ = some u := fun j u h => after_cell ((hbl.cell (p := ⟨b,o + k * 14 + j,none⟩) q1).trans (hc1 k _ _ hf hx j u h))
   have d2 : ∀ (j : Nat) u,(opC op dv' cv' fv' bv')[j]? = some u → ∀ x : After wr,x.w.cell? ⟨b',o' + k * 14 + j,none⟩ = some u := fun j u h => after_cell ((hbl.cell (p := ⟨b',o' + k * 14 + j,none⟩) q2).trans (hc2 k _ _ hf hx' j u h))
   have hcall : ∀ x : After wr,Calls Tryz.prog 81 #[.agg (opC op dv cv fv bv),.agg (opC op dv' cv' fv' bv')] x.w fun e w' => e = .returned (.bool true) ∧ Below x.w.heap.size x.w w' := fun x =>
    op_same op _ _ _ _ _ _ _ _ _ _ x.w hLc ((s1.on hbl).on x.b) ((s2.on hbl).on x.b)
   have hval : ∀ (u : Value) (P : Prop),True := fun _ _ => trivial
   clear hval
   obtain ⟨⟨A1,c1,g1,-,-⟩,⟨A2,c2,g2,-,-⟩,⟨A3,c3,g3,-,-⟩,⟨A4,c4,g4,-,-⟩⟩ := s1
   obtain ⟨⟨B1,y1,h1,-,-⟩,⟨B2,y2,h2,-,-⟩,⟨B3,y3,h3,-,-⟩,⟨B4,y4,h4,-,-⟩⟩ := s2
   simp only at g1 g2 g3 g4 h1 h2 h3 h4
   subst g1 g2 g3 g4 h1 h2 h3 h4
   clear hf hx hx' hc1 hc2
   have e0 : ∀ x : After wr,x.w.cell? ⟨b,o + k * 14 + 0,none⟩ = some (.int .i64 op.kind) := d1 0 _ rfl
   have g0 : ∀ x : After wr,x.w.cell? ⟨b',o' + k * 14 + 0,none⟩ = some (.int .i64 op.kind) := d2 0 _ rfl
   have e1 : ∀ x : After wr,x.w.cell? ⟨b,o + k * 14 + 1,none⟩ = some (.int .i64 op.a) := d1 1 _ rfl
   have g1 : ∀ x : After wr,x.w.cell? ⟨b',o' + k * 14 + 1,none⟩ = some (.int .i64 op.a) := d2 1 _ rfl
   have e2 : ∀ x : After wr,x.w.cell? ⟨b,o + k * 14 + 2,none⟩ = some (.int .i64 op.k) := d1 2 _ rfl
   have g2 : ∀ x : After wr,x.w.cell? ⟨b',o' + k * 14 + 2,none⟩ = some (.int .i64 op.k) := d2 2 _ rfl
   have e3 : ∀ x : After wr,x.w.cell? ⟨b,o + k * 14 + 3,none⟩ = some (.int .i64 op.t) := d1 3 _ rfl
   have g3 : ∀ x : After wr,x.w.cell? ⟨b',o' + k * 14 + 3,none⟩ = some (.int .i64 op.t) := d2 3 _ rfl
   have e4 : ∀ x : After wr,x.w.cell? ⟨b,o + k * 14 + 4,none⟩ = some (.int .i64 op.x) := d1 4 _ rfl
   have g4 : ∀ x : After wr,x.w.cell? ⟨b',o' + k * 14 + 4,none⟩ = some (.int .i64 op.x) := d2 4 _ rfl
   have e5 : ∀ x : After wr,x.w.cell? ⟨b,o + k * 14 + 5,none⟩ = some (.int .i64 op.link) := d1 5 _ rfl
   have g5 : ∀ x : After wr,x.w.cell? ⟨b',o' + k * 14 + 5,none⟩ = some (.int .i64 op.link) := d2 5 _ rfl
   have e6 : ∀ x : After wr,x.w.cell? ⟨b,o + k * 14 + 6,none⟩ = some (.slice A1 op.data.length c1) := d1 6 _ rfl
   have g6 : ∀ x : After wr,x.w.cell? ⟨b',o' + k * 14 + 6,none⟩ = some (.slice B1 op.data.length y1) := d2 6 _ rfl
   have e7 : ∀ x : After wr,x.w.cell? ⟨b,o + k * 14 + 7,none⟩ = some (.int .i64 op.sec) := d1 7 _ rfl
   have g7 : ∀ x : After wr,x.w.cell? ⟨b',o' + k * 14 + 7,none⟩ = some (.int .i64 op.sec) := d2 7 _ rfl
   have e8 : ∀ x : After wr,x.w.cell? ⟨b,o + k * 14 + 8,none⟩ = some (.int .i64 op.nano) := d1 8 _ rfl
   have g8 : ∀ x : After wr,x.w.cell? ⟨b',o' + k * 14 + 8,none⟩ = some (.int .i64 op.nano) := d2 8 _ rfl
   have e9 : ∀ x : After wr,x.w.cell? ⟨b,o + k * 14 + 9,none⟩ = some (.int .i64 op.blk) := d1 9 _ rfl
   have g9 : ∀ x : After wr,x.w.cell? ⟨b',o' + k * 14 + 9,none⟩ = some (.int .i64 op.blk) := d2 9 _ rfl
   have e10 : ∀ x : After wr,x.w.cell? ⟨b,o + k * 14 + 10,none⟩ = some (.int .i64 op.wid) := d1 10 _ rfl
   have g10 : ∀ x : After wr,x.w.cell? ⟨b',o' + k * 14 + 10,none⟩ = some (.int .i64 op.wid) := d2 10 _ rfl
   have e11 : ∀ x : After wr,x.w.cell? ⟨b,o + k * 14 + 11,none⟩ = some (.slice A2 op.chs.length c2) := d1 11 _ rfl
   have g11 : ∀ x : After wr,x.w.cell? ⟨b',o' + k * 14 + 11,none⟩ = some (.slice B2 op.chs.length y2) := d2 11 _ rfl
   have e12 : ∀ x : After wr,x.w.cell? ⟨b,o + k * 14 + 12,none⟩ = some (.slice A3 op.fls.length c3) := d1 12 _ rfl
   have g12 : ∀ x : After wr,x.w.cell? ⟨b',o' + k * 14 + 12,none⟩ = some (.slice B3 op.fls.length y3) := d2 12 _ rfl
   have e13 : ∀ x : After wr,x.w.cell? ⟨b,o + k * 14 + 13,none⟩ = some (.slice A4 op.keep.length c4) := d1 13 _ rfl
   have g13 : ∀ x : After wr,x.w.cell? ⟨b',o' + k * 14 + 13,none⟩ = some (.slice B4 op.keep.length y4) := d2 13 _ rfl
   simp only [opC] at hcall
   rw [Nat.add_zero] at e0 g0
   have i1 : (k : Int) < (n : Int) := by omega
   clear d1 d2
   go_upto_region 6 with fail
   refine wp_region_after (by kernel_rfl) (by kernel_rfl) ?_
   repeat (go_big_quiet_step ((go_at_call 81;with_reducible exact after_of (hcall _))))
   refine wpQuiet_nil ?_
   rintro _ ⟨x,rfl⟩
   have hb2 := hbl.trans (x.b.mono hbl.size)
   generalize x.w = w5 at hb2 ⊢
   clear e0 g0 e1 g1 e2 g2 e3 g3 e4 g4 e5 g5 e6 g6 e7 g7 e8 g8 e9 g9 e10 g10 e11 g11 e12 g12 e13 g13 hcall
   go_wp2
   go_roundw
   case rel => exact ⟨k + 1,by omega,by go_num,hb2⟩
   case measure => simp [intOf];omega
  ·have i1 : ¬ (k : Int) < (n : Int) := by omega
   go_wp2
   go_ret
   exact ⟨rfl,hbl⟩
/-- two scripts with the same steps and sectors -/
theorem scr_same (sec : Int) {l : List Opp} {n : Nat} (hn : Hid (l.length = n)) (vs vs' : List Opv) (A B : Option Addr) (c d : Nat) (w : World) (hl : n ≤ 2000000) (ha : ShO w A l vs) (hb : ShO w B l vs') (hL : ∀ o ∈ l,LimO o) :
  Calls Tryz.prog 19 #[.agg #[.int .i64 sec,.slice A n c],.agg #[.int .i64 sec,.slice B n d]] w fun e w' => e = .returned (.bool true) ∧ Below w.heap.size w w' := by
 have hb0 : Below w.heap.size w ((w.alloc (.cells #[.int .i64 sec,.slice A n c] 60)).alloc (.cells #[.int .i64 sec,.slice B n d] 60)) := (one w _).alloc (by simp) _
 have hP : Blk w.heap.size #[.int .i64 sec,.slice A n c] 60 ((w.alloc (.cells #[.int .i64 sec,.slice A n c] 60)).alloc (.cells #[.int .i64 sec,.slice B n d] 60)) := Blk.on (blk_new w _ _) (one _ _)
 have hQ : Blk (w.heap.size + 1) #[.int .i64 sec,.slice B n d] 60 ((w.alloc (.cells #[.int .i64 sec,.slice A n c] 60)).alloc (.cells #[.int .i64 sec,.slice B n d] 60)) := by
  have := blk_new (w.alloc (.cells #[.int .i64 sec,.slice A n c] 60)) #[.int .i64 sec,.slice B n d] 60
  rwa [World.size_alloc] at this
 have HC := Lib.hid (ops_same hn vs vs' A B c d _ hl (ha.on hb0) (hb.on hb0) hL)
 go_enter Tryz.func19,Tryz.ntmps19
 go_wp2_with (go_at_call 43;refine HC.out.mono ?_;rintro e w3 ⟨rfl,hb3⟩;have e0 : w3.cell? ⟨w.heap.size,0,none⟩ = some (.int .i64 sec) := (hP.on hb3).cell rfl;have g0 : w3.cell? ⟨w.heap.size + 1,0,none⟩ = some (.int .i64 sec) := (hQ.on hb3).cell rfl)
 go_ret
 exact ⟨rfl,hb0.trans (hb3.mono hb0.size)⟩
end Go.Proofs.YtpkmekdpmkfcdaaGreatDoor.Sr
