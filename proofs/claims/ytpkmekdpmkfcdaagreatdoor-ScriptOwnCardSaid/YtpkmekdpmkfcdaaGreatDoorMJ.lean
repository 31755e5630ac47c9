/- Plain: the last slash, and the prefix that a text says. Contract: a prefix out of its text, by the program. Contract: a prefix out of its text, by the program: every text. -/
import Derived.Test.YtpkmekdpmkfcdaaGreatDoorMI
import Derived.Lib.LastIndexByte
namespace Go.Proofs.YtpkmekdpmkfcdaaGreatDoor.Pf
open Go.Lib (decDigits)
open Go.RowKit Go.Shelf Go.Proofs.YtpkmekdpmkfcdaaGreatDoor.Wd Go.Proofs.YtpkmekdpmkfcdaaGreatDoor.Px Go.Proofs.YtpkmekdpmkfcdaaGreatDoor.By Go.Proofs.YtpkmekdpmkfcdaaGreatDoor.En Go.Proofs.YtpkmekdpmkfcdaaGreatDoor.Pl
theorem last_spec (c : UInt8) (t : List UInt8) : (Lib.lastIndexByte ⟨t.toArray⟩ (c.toNat : Int) = -1 ∧ c ∉ t) ∨
  (∃ q : Nat,Lib.lastIndexByte ⟨t.toArray⟩ (c.toNat : Int) = q ∧ q < t.length ∧ t = t.take q ++ c :: t.drop (q + 1) ∧ c ∉ t.drop (q + 1)) := by
 have hsz : (⟨t.toArray⟩ : ByteArray).size = t.length := rfl
 have hat : ∀ (j : Nat) (hj : j < t.length),(⟨t.toArray⟩ : ByteArray).data[j]! = t[j] := fun j hj => by simp [hj]
 have hne : ∀ x : UInt8,((x.toNat : Int) ≠ (c.toNat : Int)) → x ≠ c := fun x h e => h (by rw [e])
 rcases Lib.lastIdx_spec ⟨t.toArray⟩ (c.toNat : Int) (⟨t.toArray⟩ : ByteArray).size with ⟨h1,h2⟩ | ⟨i,h1,h2,h3,h4⟩
 ·refine .inl ⟨h1,fun hc => ?_⟩
  obtain ⟨j,hj,rfl⟩ := List.mem_iff_getElem.1 hc
  have := h2 j hj
  rw [hat j hj] at this
  exact this rfl
 ·rw [hsz] at h1 h4
  rw [hat i h1] at h3
  have hic : t[i] = c := UInt8.toNat_inj.1 (by omega)
  refine .inr ⟨i,h2,h1,?_,fun hc => ?_⟩
  ·rw [← hic,← List.drop_eq_getElem_cons h1,List.take_append_drop]
  ·obtain ⟨j,hj,he⟩ := List.mem_iff_getElem.1 hc
   have hj2 : j < t.length - (i + 1) := by simpa using hj
   have := h4 (i + 1 + j) (by omega) (by omega)
   rw [hat _ (by omega)] at this
   rw [List.getElem_drop] at he
   exact this (by rw [he])
theorem cut_last {s : UInt8} : ∀ {a a' r r' : List UInt8},a ++ s :: r = a' ++ s :: r' → s ∉ r → s ∉ r' → a = a' ∧ r = r'
 | [],[],r,r',h,_,_ => by simpa using h
 | [],x :: a',r,r',h,h1,_ => by
  simp only [List.nil_append,List.cons_append,List.cons.injEq] at h
  exact absurd (by rw [h.2];simp) h1
 | x :: a,[],r,r',h,_,h2 => by
  simp only [List.nil_append,List.cons_append,List.cons.injEq] at h
  exact absurd (by rw [← h.2];simp) h2
 | x :: a,y :: a',r,r',h,h1,h2 => by
  simp only [List.cons_append,List.cons.injEq] at h
  obtain ⟨e1,e2⟩ := cut_last h.2 h1 h2
  exact ⟨by rw [h.1,e1],e2⟩
/-- what Parse answers -/
def ofP : Option (Int × Nat × Int) → Value
 | some p => .tuple #[.agg #[.int .i64 p.1,.int .u64 ((p.2.1 / 18446744073709551616 : Nat) : Int),.int .u64 ((p.2.1 % 18446744073709551616 : Nat) : Int),.int .i64 p.2.2],.int .i64 0]
 | none => .tuple #[.agg #[.int .i64 0,.int .u64 0,.int .u64 0,.int .i64 0],.int .i64 70]
theorem prsP_parts {a r : List UInt8} (h47 : (47 : UInt8) ∉ r) {f : Int} {n : Nat} {b : Int} (h : okP f n b = true) (e : prP f n b = a ++ 47 :: r) : prsA a = some (f,n) ∧ Lib.atoiAll r = .ok b := by
 rw [prP_of h] at e
 obtain ⟨e1,e2⟩ := cut_last e (dec_no rfl _) h47
 have hx := (okP_iff f n b).1 h
 have hw : wid f ≤ 128 := by unfold wid;split <;> (try split) <;> omega
 refine ⟨by rw [← e1];exact prsA_prt hx.1,?_⟩
 rw [← e2,atoi_digits _ (decDigits_ne _) (decDigits_dig _) (by rw [decDigits_val];omega),decDigits_val]
 congr 1
 omega
theorem prsP_slash {t : List UInt8} (h : (47 : UInt8) ∉ t) : prsP t = none := prsP_none fun f n b hk e => by
 rw [prP_of hk] at e
 exact h (by rw [← e];simp)
theorem prsP_addr {a r : List UInt8} (h47 : (47 : UInt8) ∉ r) (h : prsA a = none) : prsP (a ++ 47 :: r) = none := prsP_none fun f n b hk e => by
 have := (prsP_parts h47 hk e).1
 rw [h] at this;cases this
theorem prsP_atoi {a r : List UInt8} (h47 : (47 : UInt8) ∉ r) (h : ∀ v,Lib.atoiAll r ≠ .ok v) : prsP (a ++ 47 :: r) = none := prsP_none fun _ _ b hk e => h b (prsP_parts h47 hk e).2
theorem num_of {f : Int} {N : Nat} (h : okA f N = true) : vA f (N / 18446744073709551616) (N % 18446744073709551616) = true ∧ num f (N / 18446744073709551616) (N % 18446744073709551616) = N := by
 rcases (okA_iff f N).1 h with ⟨rfl,hN⟩ | ⟨rfl,hN⟩
 ·refine ⟨by simp [vA],?_⟩
  simp [num];omega
 ·refine ⟨by simp [vA];omega,?_⟩
  simp [num];omega
theorem vP_of {f : Int} {N : Nat} (h : okA f N = true) (b : Int) : vP f (N / 18446744073709551616) (N % 18446744073709551616) b = okP f N b := by
 obtain ⟨h1,h2⟩ := num_of h
 unfold vP okP
 rw [h1,h2,h]
theorem pT_of {f : Int} {N : Nat} (h : okA f N = true) (b : Int) : pT f (N / 18446744073709551616) (N % 18446744073709551616) b = prP f N b := by
 obtain ⟨h1,h2⟩ := num_of h
 unfold pT prP
 rw [vP_of h,prT_yes h1,h2]
theorem okA_small {f : Int} {N : Nat} (h : okA f N = true) : N / 18446744073709551616 < 18446744073709551616 ∧ N % 18446744073709551616 < 18446744073709551616 := by
 rcases (okA_iff f N).1 h with ⟨rfl,hN⟩ | ⟨rfl,hN⟩ <;> constructor <;> omega
theorem prsP_bad {a r : List UInt8} (h47 : (47 : UInt8) ∉ r) {f : Int} {N : Nat} {v : Int} (h1 : prsA a = some (f,N)) (h2 : Lib.atoiAll r = .ok v) (h : okP f N v = false ∨ prP f N v ≠ a ++ 47 :: r) : prsP (a ++ 47 :: r) = none := prsP_none fun f' n' b' hk e => by
 obtain ⟨e1,e2⟩ := prsP_parts h47 hk e
 rw [h1] at e1;rw [h2] at e2
 injection e1 with e1;injection e1 with e1 e3;injection e2 with e2
 subst e1 e3 e2
 rcases h with h | h
 ·rw [h] at hk;cases hk
 ·exact h e
end Go.Proofs.YtpkmekdpmkfcdaaGreatDoor.Pf
namespace Go.Proofs.YtpkmekdpmkfcdaaGreatDoor.Pf
open Go.Lib (decDigits)
open Go.RowKit Go.Shelf Go.Proofs.YtpkmekdpmkfcdaaGreatDoor.Wd Go.Proofs.YtpkmekdpmkfcdaaGreatDoor.Px Go.Proofs.YtpkmekdpmkfcdaaGreatDoor.By Go.Proofs.YtpkmekdpmkfcdaaGreatDoor.En Go.Proofs.YtpkmekdpmkfcdaaGreatDoor.Pl
theorem last_as {t : List UInt8} {q : Int} (h : Hid (Lib.lastIndexByte ⟨t.toArray⟩ 47 = q)) (hs : t.length ≤ 140737488355328) (w : World) :
  Calls Tryz.prog 226 #[.string ⟨t.toArray⟩,.int .u8 47] w fun e w' => e = .returned (.int .i64 q) ∧ w' = w := by
 have := Tryz.strings_LastIndexByte ⟨t.toArray⟩ 47 (show t.length < _ by omega) w
 rwa [h.out] at this
theorem parseaddr_as {s : ByteArray} {a : List UInt8} {v : Value} (ha : Hid (s = ⟨a.toArray⟩)) (h : Hid (ofA (prsA a) = v)) (hs : a.length ≤ 140737488355328) (w : World) (hE : Env w) :
  Calls Tryz.prog 227 #[.string s] w fun e w' => e = .returned v ∧ Below w.heap.size w w' := by
 have := parseaddr_any a hs w hE
 rwa [h.out,← ha.out] at this
theorem atoi_yes {s : ByteArray} {r : List UInt8} {v : Int} (ha : Hid (s = ⟨r.toArray⟩)) (h : Hid (Lib.atoiAll r = .ok v)) (hs : r.length ≤ 140737488355328) (w : World) (hE : Env w) :
  Calls Tryz.prog 228 #[.string s] w fun e w' => e = .returned (.tuple #[.int .i64 v,.nilIface]) ∧ Below w.heap.size w w' := by
 have h2 := h.out
 rw [ha.out]
 refine (atoi_any ⟨r.toArray⟩ w hs hE).mono ?_
 rintro e w' ⟨⟨x,hx,rfl⟩ | ⟨hx,-⟩,hb⟩
 ·have : Lib.atoiAll r = .ok x := hx
  rw [h2] at this
  injection this with this
  subst this
  exact ⟨rfl,hb⟩
 ·exact absurd h2 (hx v)
theorem atoi_no {s : ByteArray} {r : List UInt8} (ha : Hid (s = ⟨r.toArray⟩)) (h : Hid (∀ v,Lib.atoiAll r ≠ .ok v)) (hs : r.length ≤ 140737488355328) (w : World) (hE : Env w) :
  Calls Tryz.prog 228 #[.string s] w fun e w' => (∃ v N,e = .returned (.tuple #[.int .i64 v,.iface 316 (.pointer (some ⟨N,0,none⟩))])) ∧ Below w.heap.size w w' := by
 have h2 := h.out
 rw [ha.out]
 refine (atoi_any ⟨r.toArray⟩ w hs hE).mono ?_
 rintro e w' ⟨⟨x,hx,-⟩ | ⟨-,v,N,-,-,rfl⟩,hb⟩
 ·exact absurd hx (h2 x)
 ·exact ⟨⟨v,N,rfl⟩,hb⟩
theorem print_as {f : Int} {hi lo : Nat} {b : Int} {p : List UInt8} (h : Hid (pT f hi lo b = p)) (w : World) (hE : Env w) (hh : hi < 18446744073709551616) (hl : lo < 18446744073709551616) :
  Calls Tryz.prog 66 #[.agg #[.int .i64 f,.int .u64 hi,.int .u64 lo,.int .i64 b]] w fun e w' => e = .returned (.string ⟨p.toArray⟩) ∧ Below w.heap.size w w' := by
 have := print_any f hi lo b w hE hh hl
 rwa [h.out] at this
/-- the result's block while Parse runs: zero, and to be written -/
structure PS (w W : World) : Prop where
 c0 : W.cell? ⟨w.heap.size,0,none⟩ = some (.int .i64 0)
 c1 : W.cell? ⟨w.heap.size,1,none⟩ = some (.int .u64 0)
 c2 : W.cell? ⟨w.heap.size,2,none⟩ = some (.int .u64 0)
 c3 : W.cell? ⟨w.heap.size,3,none⟩ = some (.int .i64 0)
 fz : ∀ o,W.frozen? ⟨w.heap.size,o,none⟩ = false
 lt : w.heap.size < W.heap.size
 bl : Below w.heap.size w W
/-- the result's block when all is told -/
structure PT (w : World) (f hi lo b : Int) (W : World) : Prop where
 c0 : W.cell? ⟨w.heap.size,0,none⟩ = some (.int .i64 f)
 c1 : W.cell? ⟨w.heap.size,1,none⟩ = some (.int .u64 hi)
 c2 : W.cell? ⟨w.heap.size,2,none⟩ = some (.int .u64 lo)
 c3 : W.cell? ⟨w.heap.size,3,none⟩ = some (.int .i64 b)
 bl : Below w.heap.size w W
theorem PS.new (w : World) (t : TypeId) : PS w (w.alloc (.cells #[.int .i64 0,.int .u64 0,.int .u64 0,.int .i64 0] t)) :=
 ⟨by go_simp,by go_simp,by go_simp,by go_simp,fun o => by go_simp,by simp,one _ _⟩
theorem PS.on {w W W' : World} (h : PS w W) (hb : Below W.heap.size W W') : PS w W' :=
 ⟨keepc hb h.c0,keepc hb h.c1,keepc hb h.c2,keepc hb h.c3,keepf hb h.lt h.fz,Nat.lt_of_lt_of_le h.lt hb.size,h.bl.trans (hb.mono h.bl.size)⟩
theorem PS.tell {w W : World} (h : PS w W) (f hi lo b : Int) : PT w f hi lo b ((((W.setCell ⟨w.heap.size,0,none⟩ (.int .i64 f)).setCell ⟨w.heap.size,1,none⟩ (.int .u64 hi)).setCell ⟨w.heap.size,2,none⟩ (.int .u64 lo)).setCell ⟨w.heap.size,3,none⟩ (.int .i64 b)) := by
 obtain ⟨c0,c1,c2,c3,fz,lt,bl⟩ := h
 exact ⟨by go_simp,by go_simp,by go_simp,by go_simp,(((bl.setCell (p := ⟨w.heap.size,0,none⟩) (Nat.le_refl _) _).setCell (p := ⟨w.heap.size,1,none⟩) (Nat.le_refl _) _).setCell (p := ⟨w.heap.size,2,none⟩) (Nat.le_refl _) _).setCell (p := ⟨w.heap.size,3,none⟩) (Nat.le_refl _) _⟩
/-- a new block for an address -/
theorem adr_new (W : World) (f hi lo : Int) (t : TypeId) : (W.alloc (.cells #[.int .i64 f,.int .u64 hi,.int .u64 lo] t)).cell? ⟨W.heap.size,0,none⟩ = some (.int .i64 f) ∧ (W.alloc (.cells #[.int .i64 f,.int .u64 hi,.int .u64 lo] t)).cell? ⟨W.heap.size,1,none⟩ = some (.int .u64 hi) ∧ (W.alloc (.cells #[.int .i64 f,.int .u64 hi,.int .u64 lo] t)).cell? ⟨W.heap.size,2,none⟩ = some (.int .u64 lo) := ⟨by go_simp,by go_simp,by go_simp⟩
theorem parse_noslash (t : List UInt8) (ht : t.length ≤ 140737488355328) (w : World) (HL : Hid (Lib.lastIndexByte ⟨t.toArray⟩ 47 = -1)) :
  Calls Tryz.prog 151 #[.string ⟨t.toArray⟩] w fun e w' => e = .returned (ofP none) ∧ Below w.heap.size w w' := by
 have hs := PS.new w 90
 go_enter Tryz.func151,Tryz.ntmps151
 go_wp2_with fail
 refine (last_as HL ht _).mono ?_
 rintro e w' ⟨rfl,rfl⟩
 generalize w.alloc (.cells #[.int .i64 0,.int .u64 0,.int .u64 0,.int .i64 0] 90) = W0 at hs ⊢
 have hx := hs.tell 0 0 0 0
 obtain ⟨c0,c1,c2,c3,fz,lt,bl⟩ := hs
 go_wp2
 clear c0 c1 c2 c3
 obtain ⟨c0,c1,c2,c3,bl⟩ := hx
 exact bodyPost_ret (v := .tuple #[.agg #[.int .i64 0,.int .u64 0,.int .u64 0,.int .i64 0],.int .i64 70]) (by simp [results,Tryz.results151,go_sem,c0,c1,c2,c3]) rfl ⟨rfl,bl⟩
set_option maxRecDepth 20000 in
set_option maxHeartbeats 2000000 in
theorem parse_noaddr (t a r : List UInt8) (q : Nat) (hq : q < t.length) (ht : t.length ≤ 140737488355328) (w : World) (hE : Env w) (HL : Hid (Lib.lastIndexByte ⟨t.toArray⟩ 47 = q))
  (HA : Hid ((⟨t.toArray⟩ : ByteArray).extract 0 q = ⟨a.toArray⟩)) (HR : Hid ((⟨t.toArray⟩ : ByteArray).extract (q + 1) t.length = ⟨r.toArray⟩)) (ha : a.length ≤ 140737488355328) (hr : r.length ≤ 140737488355328)
  (HV : Hid (ofA (prsA a) = .tuple #[.agg #[.int .i64 0,.int .u64 0,.int .u64 0],.int .i64 70])) (v : Int) (HN : Hid (Lib.atoiAll r = .ok v)) :
  Calls Tryz.prog 151 #[.string ⟨t.toArray⟩] w fun e w' => e = .returned (ofP none) ∧ Below w.heap.size w w' := by
 have hs := PS.new w 90
 go_enter Tryz.func151,Tryz.ntmps151
 go_wp2_with fail
 refine (last_as HL ht _).mono ?_
 rintro e w' ⟨rfl,rfl⟩
 generalize w.alloc (.cells #[.int .i64 0,.int .u64 0,.int .u64 0,.int .i64 0] 90) = W0 at hs ⊢
 go_wp2_with fail
 refine (parseaddr_as HA HV ha _ (hE.on hs.bl)).mono ?_
 rintro e w1 ⟨rfl,hb1⟩
 have hs1 := hs.on hb1
 clear hs hb1
 go_wp2_with fail
 have hs2 := hs1.on (one w1 (.cells #[.int .i64 0,.int .u64 0,.int .u64 0] 88))
 obtain ⟨x0,x1,x2⟩ := adr_new w1 0 0 0 88
 refine (atoi_yes HR HN hr _ (hE.on hs2.bl)).mono ?_
 rintro e w2 ⟨rfl,hb2⟩
 have hs3 := hs2.on hb2
 have y0 := keepc hb2 x0
 have y1 := keepc hb2 x1
 have y2 := keepc hb2 x2
 clear hs1 hs2 x0 x1 x2
 have hs4 := hs3.on (one w2 (.cells #[.int .i64 0,.int .u64 0,.int .u64 0,.int .i64 v] 90))
 have hx := hs4.tell 0 0 0 0
 obtain ⟨c0,c1,c2,c3,fz,lt,bl⟩ := hs4
 go_wp2
 clear c0 c1 c2 c3
 obtain ⟨c0,c1,c2,c3,bl⟩ := hx
 exact bodyPost_ret (v := .tuple #[.agg #[.int .i64 0,.int .u64 0,.int .u64 0,.int .i64 0],.int .i64 70]) (by simp [results,Tryz.results151,go_sem,c0,c1,c2,c3]) rfl ⟨rfl,bl⟩
set_option maxRecDepth 20000 in
set_option maxHeartbeats 2000000 in
theorem parse_noaddr2 (t a r : List UInt8) (q : Nat) (hq : q < t.length) (ht : t.length ≤ 140737488355328) (w : World) (hE : Env w) (HL : Hid (Lib.lastIndexByte ⟨t.toArray⟩ 47 = q))
  (HA : Hid ((⟨t.toArray⟩ : ByteArray).extract 0 q = ⟨a.toArray⟩)) (HR : Hid ((⟨t.toArray⟩ : ByteArray).extract (q + 1) t.length = ⟨r.toArray⟩)) (ha : a.length ≤ 140737488355328) (hr : r.length ≤ 140737488355328)
  (HV : Hid (ofA (prsA a) = .tuple #[.agg #[.int .i64 0,.int .u64 0,.int .u64 0],.int .i64 70])) (HN : Hid (∀ v,Lib.atoiAll r ≠ .ok v)) :
  Calls Tryz.prog 151 #[.string ⟨t.toArray⟩] w fun e w' => e = .returned (ofP none) ∧ Below w.heap.size w w' := by
 have hs := PS.new w 90
 go_enter Tryz.func151,Tryz.ntmps151
 go_wp2_with fail
 refine (last_as HL ht _).mono ?_
 rintro e w' ⟨rfl,rfl⟩
 generalize w.alloc (.cells #[.int .i64 0,.int .u64 0,.int .u64 0,.int .i64 0] 90) = W0 at hs ⊢
 go_wp2_with fail
 refine (parseaddr_as HA HV ha _ (hE.on hs.bl)).mono ?_
 rintro e w1 ⟨rfl,hb1⟩
 have hs1 := hs.on hb1
 clear hs hb1
 go_wp2_with fail
 have hs2 := hs1.on (one w1 (.cells #[.int .i64 0,.int .u64 0,.int .u64 0] 88))
 obtain ⟨x0,x1,x2⟩ := adr_new w1 0 0 0 88
 refine (atoi_no HR HN hr _ (hE.on hs2.bl)).mono ?_
 rintro e w2 ⟨⟨v,Ne,rfl⟩,hb2⟩
 have hs3 := hs2.on hb2
 have y0 := keepc hb2 x0
 have y1 := keepc hb2 x1
 have y2 := keepc hb2 x2
 clear hs1 hs2 x0 x1 x2
 have hs4 := hs3.on (one w2 (.cells #[.int .i64 0,.int .u64 0,.int .u64 0,.int .i64 v] 90))
 have hx := hs4.tell 0 0 0 0
 obtain ⟨c0,c1,c2,c3,fz,lt,bl⟩ := hs4
 go_wp2
 clear c0 c1 c2 c3
 obtain ⟨c0,c1,c2,c3,bl⟩ := hx
 exact bodyPost_ret (v := .tuple #[.agg #[.int .i64 0,.int .u64 0,.int .u64 0,.int .i64 0],.int .i64 70]) (by simp [results,Tryz.results151,go_sem,c0,c1,c2,c3]) rfl ⟨rfl,bl⟩
set_option maxRecDepth 20000 in
set_option maxHeartbeats 2000000 in
theorem parse_noatoi (t a r : List UInt8) (q : Nat) (hq : q < t.length) (ht : t.length ≤ 140737488355328) (w : World) (hE : Env w) (HL : Hid (Lib.lastIndexByte ⟨t.toArray⟩ 47 = q))
  (HA : Hid ((⟨t.toArray⟩ : ByteArray).extract 0 q = ⟨a.toArray⟩)) (HR : Hid ((⟨t.toArray⟩ : ByteArray).extract (q + 1) t.length = ⟨r.toArray⟩)) (ha : a.length ≤ 140737488355328) (hr : r.length ≤ 140737488355328) (f : Int) (hi lo : Nat)
  (HV : Hid (ofA (prsA a) = .tuple #[.agg #[.int .i64 f,.int .u64 (hi : Int),.int .u64 (lo : Int)],.int .i64 0])) (HN : Hid (∀ v,Lib.atoiAll r ≠ .ok v)) :
  Calls Tryz.prog 151 #[.string ⟨t.toArray⟩] w fun e w' => e = .returned (ofP none) ∧ Below w.heap.size w w' := by
 have hs := PS.new w 90
 go_enter Tryz.func151,Tryz.ntmps151
 go_wp2_with fail
 refine (last_as HL ht _).mono ?_
 rintro e w' ⟨rfl,rfl⟩
 generalize w.alloc (.cells #[.int .i64 0,.int .u64 0,.int .u64 0,.int .i64 0] 90) = W0 at hs ⊢
 go_wp2_with fail
 refine (parseaddr_as HA HV ha _ (hE.on hs.bl)).mono ?_
 rintro e w1 ⟨rfl,hb1⟩
 have hs1 := hs.on hb1
 clear hs hb1
 go_wp2_with fail
 have hs2 := hs1.on (one w1 (.cells #[.int .i64 f,.int .u64 (hi : Int),.int .u64 (lo : Int)] 88))
 obtain ⟨x0,x1,x2⟩ := adr_new w1 f (hi : Int) (lo : Int) 88
 refine (atoi_no HR HN hr _ (hE.on hs2.bl)).mono ?_
 rintro e w2 ⟨⟨v,Ne,rfl⟩,hb2⟩
 have hs3 := hs2.on hb2
 have y0 := keepc hb2 x0
 have y1 := keepc hb2 x1
 have y2 := keepc hb2 x2
 clear hs1 hs2 x0 x1 x2
 have hs4 := hs3.on (one w2 (.cells #[.int .i64 f,.int .u64 (hi : Int),.int .u64 (lo : Int),.int .i64 v] 90))
 have hx := hs4.tell 0 0 0 0
 obtain ⟨c0,c1,c2,c3,fz,lt,bl⟩ := hs4
 go_wp2
 clear c0 c1 c2 c3
 obtain ⟨c0,c1,c2,c3,bl⟩ := hx
 exact bodyPost_ret (v := .tuple #[.agg #[.int .i64 0,.int .u64 0,.int .u64 0,.int .i64 0],.int .i64 70]) (by simp [results,Tryz.results151,go_sem,c0,c1,c2,c3]) rfl ⟨rfl,bl⟩
set_option maxRecDepth 20000 in
set_option maxHeartbeats 2000000 in
theorem parse_novalid (t a r : List UInt8) (q : Nat) (hq : q < t.length) (ht : t.length ≤ 140737488355328) (w : World) (hE : Env w) (HL : Hid (Lib.lastIndexByte ⟨t.toArray⟩ 47 = q))
  (HA : Hid ((⟨t.toArray⟩ : ByteArray).extract 0 q = ⟨a.toArray⟩)) (HR : Hid ((⟨t.toArray⟩ : ByteArray).extract (q + 1) t.length = ⟨r.toArray⟩)) (ha : a.length ≤ 140737488355328) (hr : r.length ≤ 140737488355328) (f : Int) (hi lo : Nat) (hh : hi < 18446744073709551616) (hl : lo < 18446744073709551616)
  (HV : Hid (ofA (prsA a) = .tuple #[.agg #[.int .i64 f,.int .u64 (hi : Int),.int .u64 (lo : Int)],.int .i64 0])) (v : Int) (HN : Hid (Lib.atoiAll r = .ok v)) (HP : Hid (vP f hi lo v = false)) :
  Calls Tryz.prog 151 #[.string ⟨t.toArray⟩] w fun e w' => e = .returned (ofP none) ∧ Below w.heap.size w w' := by
 have hs := PS.new w 90
 go_enter Tryz.func151,Tryz.ntmps151
 go_wp2_with fail
 refine (last_as HL ht _).mono ?_
 rintro e w' ⟨rfl,rfl⟩
 generalize w.alloc (.cells #[.int .i64 0,.int .u64 0,.int .u64 0,.int .i64 0] 90) = W0 at hs ⊢
 go_wp2_with fail
 refine (parseaddr_as HA HV ha _ (hE.on hs.bl)).mono ?_
 rintro e w1 ⟨rfl,hb1⟩
 have hs1 := hs.on hb1
 clear hs hb1
 go_wp2_with fail
 have hs2 := hs1.on (one w1 (.cells #[.int .i64 f,.int .u64 (hi : Int),.int .u64 (lo : Int)] 88))
 obtain ⟨x0,x1,x2⟩ := adr_new w1 f (hi : Int) (lo : Int) 88
 refine (atoi_yes HR HN hr _ (hE.on hs2.bl)).mono ?_
 rintro e w2 ⟨rfl,hb2⟩
 have hs3 := hs2.on hb2
 have y0 := keepc hb2 x0
 have y1 := keepc hb2 x1
 have y2 := keepc hb2 x2
 clear hs1 hs2 x0 x1 x2
 have hs4 := hs3.on (one w2 (.cells #[.int .i64 f,.int .u64 (hi : Int),.int .u64 (lo : Int),.int .i64 v] 90))
 have hp := pb_new w2 f hi lo v 90
 go_wp2_with fail
 refine (vvalid_as HP _ hh hl).mono ?_
 rintro e w3 ⟨rfl,hb3⟩
 have hs5 := hs4.on hb3
 have hp3 := hp.on hb3
 clear hs3 hs4 hp hb3 hb2 y0 y1 y2
 obtain ⟨p0,p1,p2,p3⟩ := hp3
 have hx := hs5.tell 0 0 0 0
 obtain ⟨c0,c1,c2,c3,fz,lt,bl⟩ := hs5
 go_wp2
 clear c0 c1 c2 c3
 obtain ⟨c0,c1,c2,c3,bl⟩ := hx
 exact bodyPost_ret (v := .tuple #[.agg #[.int .i64 0,.int .u64 0,.int .u64 0,.int .i64 0],.int .i64 70]) (by simp [results,Tryz.results151,go_sem,c0,c1,c2,c3]) rfl ⟨rfl,bl⟩
set_option maxRecDepth 20000 in
set_option maxHeartbeats 2000000 in
theorem parse_other (t a r : List UInt8) (q : Nat) (hq : q < t.length) (ht : t.length ≤ 140737488355328) (w : World) (hE : Env w) (HL : Hid (Lib.lastIndexByte ⟨t.toArray⟩ 47 = q))
  (HA : Hid ((⟨t.toArray⟩ : ByteArray).extract 0 q = ⟨a.toArray⟩)) (HR : Hid ((⟨t.toArray⟩ : ByteArray).extract (q + 1) t.length = ⟨r.toArray⟩)) (ha : a.length ≤ 140737488355328) (hr : r.length ≤ 140737488355328) (f : Int) (hi lo : Nat) (hh : hi < 18446744073709551616) (hl : lo < 18446744073709551616)
  (HV : Hid (ofA (prsA a) = .tuple #[.agg #[.int .i64 f,.int .u64 (hi : Int),.int .u64 (lo : Int)],.int .i64 0])) (v : Int) (HN : Hid (Lib.atoiAll r = .ok v)) (HP : Hid (vP f hi lo v = true)) (p : List UInt8) (HT : Hid (pT f hi lo v = p)) (HS : Hid (p ≠ t)) :
  Calls Tryz.prog 151 #[.string ⟨t.toArray⟩] w fun e w' => e = .returned (ofP none) ∧ Below w.heap.size w w' := by
 have hs := PS.new w 90
 go_enter Tryz.func151,Tryz.ntmps151
 go_wp2_with fail
 refine (last_as HL ht _).mono ?_
 rintro e w' ⟨rfl,rfl⟩
 generalize w.alloc (.cells #[.int .i64 0,.int .u64 0,.int .u64 0,.int .i64 0] 90) = W0 at hs ⊢
 go_wp2_with fail
 refine (parseaddr_as HA HV ha _ (hE.on hs.bl)).mono ?_
 rintro e w1 ⟨rfl,hb1⟩
 have hs1 := hs.on hb1
 clear hs hb1
 go_wp2_with fail
 have hs2 := hs1.on (one w1 (.cells #[.int .i64 f,.int .u64 (hi : Int),.int .u64 (lo : Int)] 88))
 obtain ⟨x0,x1,x2⟩ := adr_new w1 f (hi : Int) (lo : Int) 88
 refine (atoi_yes HR HN hr _ (hE.on hs2.bl)).mono ?_
 rintro e w2 ⟨rfl,hb2⟩
 have hs3 := hs2.on hb2
 have y0 := keepc hb2 x0
 have y1 := keepc hb2 x1
 have y2 := keepc hb2 x2
 clear hs1 hs2 x0 x1 x2
 have hs4 := hs3.on (one w2 (.cells #[.int .i64 f,.int .u64 (hi : Int),.int .u64 (lo : Int),.int .i64 v] 90))
 have hp := pb_new w2 f hi lo v 90
 go_wp2_with fail
 refine (vvalid_as HP _ hh hl).mono ?_
 rintro e w3 ⟨rfl,hb3⟩
 have hs5 := hs4.on hb3
 have hp3 := hp.on hb3
 clear hs3 hs4 hp hb3 hb2 y0 y1 y2
 obtain ⟨p0,p1,p2,p3⟩ := hp3
 go_wp2_with fail
 refine (print_as HT _ (hE.on hs5.bl) hh hl).mono ?_
 rintro e w4 ⟨rfl,hb4⟩
 have hs6 := hs5.on hb4
 have q0 := keepc hb4 p0
 have q1 := keepc hb4 p1
 have q2 := keepc hb4 p2
 have q3 := keepc hb4 p3
 clear hs5 p0 p1 p2 p3
 have hne : ¬ ((p == t) = true) := by simpa using HS.out
 have hx := hs6.tell 0 0 0 0
 obtain ⟨c0,c1,c2,c3,fz,lt,bl⟩ := hs6
 go_wp2
 clear c0 c1 c2 c3
 obtain ⟨c0,c1,c2,c3,bl⟩ := hx
 exact bodyPost_ret (v := .tuple #[.agg #[.int .i64 0,.int .u64 0,.int .u64 0,.int .i64 0],.int .i64 70]) (by simp [results,Tryz.results151,go_sem,c0,c1,c2,c3]) rfl ⟨rfl,bl⟩
set_option maxRecDepth 20000 in
set_option maxHeartbeats 2000000 in
theorem parse_same (t a r : List UInt8) (q : Nat) (hq : q < t.length) (ht : t.length ≤ 140737488355328) (w : World) (hE : Env w) (HL : Hid (Lib.lastIndexByte ⟨t.toArray⟩ 47 = q))
  (HA : Hid ((⟨t.toArray⟩ : ByteArray).extract 0 q = ⟨a.toArray⟩)) (HR : Hid ((⟨t.toArray⟩ : ByteArray).extract (q + 1) t.length = ⟨r.toArray⟩)) (ha : a.length ≤ 140737488355328) (hr : r.length ≤ 140737488355328) (f : Int) (hi lo : Nat) (hh : hi < 18446744073709551616) (hl : lo < 18446744073709551616)
  (HV : Hid (ofA (prsA a) = .tuple #[.agg #[.int .i64 f,.int .u64 (hi : Int),.int .u64 (lo : Int)],.int .i64 0])) (v : Int) (HN : Hid (Lib.atoiAll r = .ok v)) (HP : Hid (vP f hi lo v = true)) (p : List UInt8) (HT : Hid (pT f hi lo v = p)) (HS : Hid (p = t)) :
  Calls Tryz.prog 151 #[.string ⟨t.toArray⟩] w fun e w' => e = .returned (.tuple #[.agg #[.int .i64 f,.int .u64 (hi : Int),.int .u64 (lo : Int),.int .i64 v],.int .i64 0]) ∧ Below w.heap.size w w' := by
 have hs := PS.new w 90
 go_enter Tryz.func151,Tryz.ntmps151
 go_wp2_with fail
 refine (last_as HL ht _).mono ?_
 rintro e w' ⟨rfl,rfl⟩
 generalize w.alloc (.cells #[.int .i64 0,.int .u64 0,.int .u64 0,.int .i64 0] 90) = W0 at hs ⊢
 go_wp2_with fail
 refine (parseaddr_as HA HV ha _ (hE.on hs.bl)).mono ?_
 rintro e w1 ⟨rfl,hb1⟩
 have hs1 := hs.on hb1
 clear hs hb1
 go_wp2_with fail
 have hs2 := hs1.on (one w1 (.cells #[.int .i64 f,.int .u64 (hi : Int),.int .u64 (lo : Int)] 88))
 obtain ⟨x0,x1,x2⟩ := adr_new w1 f (hi : Int) (lo : Int) 88
 refine (atoi_yes HR HN hr _ (hE.on hs2.bl)).mono ?_
 rintro e w2 ⟨rfl,hb2⟩
 have hs3 := hs2.on hb2
 have y0 := keepc hb2 x0
 have y1 := keepc hb2 x1
 have y2 := keepc hb2 x2
 clear hs1 hs2 x0 x1 x2
 have hs4 := hs3.on (one w2 (.cells #[.int .i64 f,.int .u64 (hi : Int),.int .u64 (lo : Int),.int .i64 v] 90))
 have hp := pb_new w2 f hi lo v 90
 go_wp2_with fail
 refine (vvalid_as HP _ hh hl).mono ?_
 rintro e w3 ⟨rfl,hb3⟩
 have hs5 := hs4.on hb3
 have hp3 := hp.on hb3
 clear hs3 hs4 hp hb3 hb2 y0 y1 y2
 obtain ⟨p0,p1,p2,p3⟩ := hp3
 go_wp2_with fail
 refine (print_as HT _ (hE.on hs5.bl) hh hl).mono ?_
 rintro e w4 ⟨rfl,hb4⟩
 have hs6 := hs5.on hb4
 have q0 := keepc hb4 p0
 have q1 := keepc hb4 p1
 have q2 := keepc hb4 p2
 have q3 := keepc hb4 p3
 clear hs5 p0 p1 p2 p3
 obtain rfl := HS.out
 have hx := hs6.tell f hi lo v
 obtain ⟨c0,c1,c2,c3,fz,lt,bl⟩ := hs6
 go_wp2
 clear c0 c1 c2 c3
 obtain ⟨c0,c1,c2,c3,bl⟩ := hx
 exact bodyPost_ret (v := .tuple #[.agg #[.int .i64 f,.int .u64 (hi : Int),.int .u64 (lo : Int),.int .i64 v],.int .i64 0]) (by simp [results,Tryz.results151,go_sem,c0,c1,c2,c3]) rfl ⟨rfl,bl⟩
end Go.Proofs.YtpkmekdpmkfcdaaGreatDoor.Pf
namespace Go.Proofs.YtpkmekdpmkfcdaaGreatDoor.Pf
open Go.Lib (decDigits)
open Go.RowKit Go.Shelf Go.Proofs.YtpkmekdpmkfcdaaGreatDoor.Wd Go.Proofs.YtpkmekdpmkfcdaaGreatDoor.Px Go.Proofs.YtpkmekdpmkfcdaaGreatDoor.By Go.Proofs.YtpkmekdpmkfcdaaGreatDoor.En Go.Proofs.YtpkmekdpmkfcdaaGreatDoor.Pl
theorem parse_any (t : List UInt8) (ht : t.length ≤ 140737488355328) (w : World) (hE : Env w) :
  Calls Tryz.prog 151 #[.string ⟨t.toArray⟩] w fun e w' => e = .returned (ofP (prsP t)) ∧ Below w.heap.size w w' := by
 rcases last_spec 47 t with ⟨h,hn⟩ | ⟨q,h,hq,hcut,h47⟩
 ·rw [prsP_slash hn]
  exact parse_noslash t ht w (Lib.hid h)
 ·have HL := Lib.hid h
  have HA := Lib.hid (ext_take t q)
  have HR := Lib.hid (ext_drop t (q + 1) t.length rfl)
  have la : (t.take q).length ≤ 140737488355328 := by rw [List.length_take];omega
  have lr : (t.drop (q + 1)).length ≤ 140737488355328 := by rw [List.length_drop];omega
  cases hA : prsA (t.take q) with
  | none =>
   have hp : prsP t = none := by rw [hcut];exact prsP_addr h47 hA
   rw [hp]
   cases hv : Lib.atoiAll (t.drop (q + 1)) with
   | ok v => exact parse_noaddr t _ _ q hq ht w hE HL HA HR la lr (Lib.hid (by rw [hA];rfl)) v (Lib.hid hv)
   | _ => exact parse_noaddr2 t _ _ q hq ht w hE HL HA HR la lr (Lib.hid (by rw [hA];rfl)) (Lib.hid (by rw [hv];simp))
  | some p =>
   obtain ⟨f,N⟩ := p
   obtain ⟨hok,hpr⟩ := prsA_some hA
   obtain ⟨s1,s2⟩ := okA_small hok
   have HV : Hid (ofA (prsA (t.take q)) = .tuple #[.agg #[.int .i64 f,.int .u64 ((N / 18446744073709551616 : Nat) : Int),.int .u64 ((N % 18446744073709551616 : Nat) : Int)],.int .i64 0]) := Lib.hid (by rw [hA];rfl)
   have hno : (∀ v,Lib.atoiAll (t.drop (q + 1)) ≠ .ok v) → Calls Tryz.prog 151 #[.string ⟨t.toArray⟩] w fun e w' => e = .returned (ofP (prsP t)) ∧ Below w.heap.size w w' := fun hv => by
    have hp : prsP t = none := by rw [hcut];exact prsP_atoi h47 hv
    rw [hp]
    exact parse_noatoi t _ _ q hq ht w hE HL HA HR la lr f _ _ HV (Lib.hid hv)
   cases hv : Lib.atoiAll (t.drop (q + 1)) with
   | ok v =>
    have hvP := vP_of hok v
    have hpT := pT_of hok v
    cases hk : okP f N v with
    | false =>
     have hp : prsP t = none := by rw [hcut];exact prsP_bad h47 hA hv (.inl hk)
     rw [hp]
     exact parse_novalid t _ _ q hq ht w hE HL HA HR la lr f _ _ s1 s2 HV v (Lib.hid hv) (Lib.hid (by rw [hvP,hk]))
    | true =>
     by_cases he : prP f N v = t
     ·have hp : prsP t = some (f,N,v) := by rw [← he];exact prsP_prt hk
      rw [hp]
      exact parse_same t _ _ q hq ht w hE HL HA HR la lr f _ _ s1 s2 HV v (Lib.hid hv) (Lib.hid (by rw [hvP,hk])) _ (Lib.hid hpT) (Lib.hid he)
     ·have hp : prsP t = none := by
       have := prsP_bad h47 hA hv (.inr (by rw [← hcut];exact he))
       rwa [← hcut] at this
      rw [hp]
      exact parse_other t _ _ q hq ht w hE HL HA HR la lr f _ _ s1 s2 HV v (Lib.hid hv) (Lib.hid (by rw [hvP,hk])) _ (Lib.hid hpT) (Lib.hid he)
   | _ => exact hno (by rw [hv];simp)
end Go.Proofs.YtpkmekdpmkfcdaaGreatDoor.Pf
