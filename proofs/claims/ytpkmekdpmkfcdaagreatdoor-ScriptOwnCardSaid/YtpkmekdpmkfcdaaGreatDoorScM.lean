/- The words, numbers, steps and texts of a script, as the document says them: plain, no program in sight. What is written of a script is read as that script: plain. A step and a whole script that are written are read as they were: plain. What was read is written again; the first fault is told; blanks and comments say nothing: plain. Joins of joins: plain. The little script: what is written of it. -/
import Derived.Test.YtpkmekdpmkfcdaaGreatDoorStampPlain
import Derived.Test.YtpkmekdpmkfcdaaGreatDoorPrefixPlain
import Derived.Test.YtpkmekdpmkfcdaaGreatDoorPrefixText
import Derived.Lib.Join
namespace Go.Proofs.YtpkmekdpmkfcdaaGreatDoor.Sc
set_option linter.unusedVariables false
set_option linter.unusedSimpArgs false
open Go.Lib Go.Proofs.YtpkmekdpmkfcdaaGreatDoor.Pl Go.Proofs.YtpkmekdpmkfcdaaGreatDoor.Px
def isBlk (c : UInt8) : Bool := decide (c = 32) || decide (c = 9)
def okC (c : UInt8) : Bool := decide (33 ≤ c.toNat ∧ c.toNat ≤ 126)
def flw (cur : List UInt8) : List (List UInt8) := if cur = [] then [] else [cur]
/-- the words of the rest of a line, behind the begin of a word -/
def wds (cur : List UInt8) : List UInt8 → Option (List (List UInt8))
 | [] => some (flw cur)
 | c :: r => if c = 35 then some (flw cur) else if isBlk c = true then (wds [] r).map (flw cur ++ ·) else if okC c = true then wds (cur ++ [c]) r else none
def wrds (l : List UInt8) : Option (List (List UInt8)) := wds [] l
/-- a word that is written -/
def okW (w : List UInt8) : Prop := w ≠ [] ∧ ∀ c ∈ w,okC c = true ∧ c ≠ 35
theorem okC_blk {c : UInt8} (h : okC c = true) : isBlk c = false := by
 unfold okC at h;unfold isBlk
 have h := of_decide_eq_true h
 rw [Bool.or_eq_false_iff]
 constructor <;> (apply decide_eq_false;intro e;subst e;revert h;decide)
theorem wds_word (cur w r : List UInt8) (h : ∀ c ∈ w,okC c = true ∧ c ≠ 35) : wds cur (w ++ r) = wds (cur ++ w) r := by
 induction w generalizing cur with
 | nil => simp
 | cons c w ih =>
  obtain ⟨h1,h2⟩ := h c (by simp)
  rw [List.cons_append,wds,if_neg h2,if_neg (by rw [okC_blk h1];simp),if_pos h1,ih _ (fun x hx => h x (by simp [hx]))]
  simp
theorem wds_blank (cur r : List UInt8) {c : UInt8} (h : isBlk c = true) : wds cur (c :: r) = (wds [] r).map (flw cur ++ ·) := by
 have : c ≠ 35 := by intro e;subst e;exact absurd h (by decide)
 rw [wds,if_neg this,if_pos h]
theorem flw_ne {w : List UInt8} (h : w ≠ []) : flw w = [w] := by unfold flw;rw [if_neg h]
theorem wrds_join (ws : List (List UInt8)) (h : ∀ w ∈ ws,okW w) : wrds (join 32 ws) = some ws := by
 induction ws with
 | nil => rfl
 | cons a r ih =>
  have ha := h a (by simp)
  cases r with
  | nil =>
   show wds [] a = _
   have := wds_word [] a [] ha.2
   rw [List.append_nil] at this
   rw [this,List.nil_append,wds,flw_ne ha.1]
  | cons b r =>
   show wds [] (a ++ 32 :: join 32 (b :: r)) = _
   rw [wds_word [] a _ ha.2,List.nil_append,wds_blank _ _ (by decide),flw_ne ha.1]
   have := ih (fun w hw => h w (by simp [hw]))
   unfold wrds at this
   rw [this];rfl
def numOk (n : Int) : Bool := decide (0 ≤ n ∧ n ≤ 4294967295)
def numW (w : List UInt8) : Option Nat :=
 if w ≠ [] ∧ w.all isDig = true ∧ ¬ (1 < w.length ∧ w.head? = some 48) ∧ valA 0 w ≤ 4294967295 then some (valA 0 w) else none
def decW (n : Int) : List UInt8 := decDigits n.toNat
theorem numW_dec {n : Int} (h : numOk n = true) : numW (decW n) = some n.toNat := by
 have h := of_decide_eq_true h
 unfold numW decW
 rw [if_pos,decDigits_val]
 refine ⟨decDigits_ne _,List.all_eq_true.2 (decDigits_dig _),?_,by rw [decDigits_val];omega⟩
 rintro ⟨h1,h2⟩
 by_cases hs : n.toNat < 10
 ·rw [decDigits,dif_pos hs] at h1
  simp at h1
 ·obtain ⟨c,r,e,hc⟩ := decDigits_head n.toNat (by omega)
  rw [e] at h2
  simp at h2
  exact hc h2
theorem numW_le {w : List UInt8} {n : Nat} (h : numW w = some n) : n ≤ 4294967295 := by
 unfold numW at h
 split at h
 ·rename_i hx
  injection h with h
  omega
 ·cases h
theorem dig_okC {c : UInt8} (h : isDig c = true) : okC c = true ∧ c ≠ 35 := by
 have h := of_decide_eq_true h
 refine ⟨decide_eq_true (by omega),fun e => by subst e;revert h;decide⟩
theorem decW_ok (n : Int) : okW (decW n) := ⟨decDigits_ne _,fun c hc => dig_okC (decDigits_dig _ c hc)⟩
def hexD (c : UInt8) : Option Nat :=
 if 48 ≤ c.toNat ∧ c.toNat ≤ 57 then some (c.toNat - 48) else if 97 ≤ c.toNat ∧ c.toNat ≤ 102 then some (c.toNat - 87)
 else if 65 ≤ c.toNat ∧ c.toNat ≤ 70 then some (c.toNat - 55) else none
def hexP : List UInt8 → Option (List UInt8)
 | [] => some []
 | [_] => none
 | x :: y :: r => match hexD x,hexD y with
  | some a,some b => (hexP r).map (UInt8.ofNat (16 * a + b) :: ·)
  | _,_ => none
def hexW (w : List UInt8) : Option (List UInt8) := if w = [45] then some [] else hexP w
def hexO (b : List UInt8) : List UInt8 := if b = [] then [45] else b.flatMap hx
theorem hexD_hexd (x : Nat) (h : x < 16) : hexD (hexd x) = some x := by
 unfold hexD;rw [hexd_toNat x h]
 by_cases h1 : x < 10
 ·rw [if_pos h1,if_pos (by omega)];congr 1;omega
 ·rw [if_neg h1,if_neg (by omega),if_pos (by omega)];congr 1;omega
theorem hexP_hx (b : List UInt8) : hexP (b.flatMap hx) = some b := by
 induction b with
 | nil => rfl
 | cons c r ih =>
  have hc := c.toNat_lt
  rw [List.flatMap_cons,hx]
  show hexP (hexd (c.toNat / 16) :: hexd (c.toNat % 16) :: r.flatMap hx) = _
  rw [hexP,hexD_hexd _ (by omega),hexD_hexd _ (by omega),ih]
  simp only [Option.map_some]
  congr 2
  rw [show 16 * (c.toNat / 16) + c.toNat % 16 = c.toNat by omega]
  exact UInt8.ofNat_toNat
theorem hexO_ne {b : List UInt8} (h : b ≠ []) : hexO b = b.flatMap hx := by unfold hexO;rw [if_neg h]
theorem hexW_hexO (b : List UInt8) : hexW (hexO b) = some b := by
 by_cases h : b = []
 ·subst h;rfl
 ·rw [hexO_ne h,hexW,if_neg,hexP_hx]
  cases b with
  | nil => exact absurd rfl h
  | cons c r => simp [hx]
theorem hexd_ok (x : Nat) (h : x < 16) : okC (hexd x) = true ∧ hexd x ≠ 35 := by
 have := hexd_toNat x h
 refine ⟨decide_eq_true (by rw [this];split <;> omega),fun e => ?_⟩
 rw [e] at this
 revert this
 split <;> (simp;try omega)
theorem hexO_ok (b : List UInt8) : okW (hexO b) := by
 by_cases h : b = []
 ·subst h;exact ⟨by decide,by decide⟩
 ·rw [hexO_ne h]
  constructor
  ·cases b with
   | nil => exact absurd rfl h
   | cons c r => simp [hx]
  ·intro c hc
   obtain ⟨d,-,hd⟩ := List.mem_flatMap.1 hc
   have h2 := d.toNat_lt
   simp only [hx,List.mem_cons,List.not_mem_nil,or_false] at hd
   rcases hd with rfl | rfl
   ·exact hexd_ok _ (by omega)
   ·exact hexd_ok _ (by omega)
def bitP : List UInt8 → Option (List Bool)
 | [] => some []
 | c :: r => if c = 48 ∨ c = 49 then (bitP r).map (decide (c = 49) :: ·) else none
def bitW (w : List UInt8) : Option (List Bool) := if w = [45] then some [] else bitP w
def bitC (x : Bool) : UInt8 := if x = true then 49 else 48
def bitO (l : List Bool) : List UInt8 := if l = [] then [45] else l.map bitC
theorem bitP_map (l : List Bool) : bitP (l.map bitC) = some l := by
 induction l with
 | nil => rfl
 | cons x r ih =>
  rw [List.map_cons,bitP,ih]
  cases x <;> simp [bitC]
theorem bitW_bitO (l : List Bool) : bitW (bitO l) = some l := by
 by_cases h : l = []
 ·subst h;rfl
 ·unfold bitO bitW;rw [if_neg h,if_neg,bitP_map]
  cases l with
  | nil => exact absurd rfl h
  | cons x r => cases x <;> simp [bitC]
theorem bitO_ok (l : List Bool) : okW (bitO l) := by
 by_cases h : l = []
 ·subst h;exact ⟨by decide,by decide⟩
 ·unfold bitO;rw [if_neg h]
  constructor
  ·simpa using h
  ·intro c hc
   obtain ⟨x,-,rfl⟩ := List.mem_map.1 hc
   cases x <;> decide
def mapE {α β : Type} (f : α → Except Int β) : List α → Except Int (List β)
 | [] => .ok []
 | a :: r => match f a with
  | .error e => .error e
  | .ok b => match mapE f r with
   | .error e => .error e
   | .ok bs => .ok (b :: bs)
/-- where a name stands, from 1 on; 0: nowhere -/
def named : List (List UInt8) → List UInt8 → Nat
 | [],_ => 0
 | n :: r,w => if n = w then 1 else if named r w = 0 then 0 else named r w + 1
structure Chg where
 kind : Int
 link : Int
 side : Int
 key : List UInt8
 pf : Int
 ph : Nat
 pl : Nat
 pb : Int
def chg0 : Chg := ⟨0,0,0,[],0,0,0,0⟩
def chgNames : List (List UInt8) := [[97,100,100],[114,101,109,111,118,101],[115,101,116,107,101,121],[97,108,108,111,119],[100,101,110,121]]
/-- L S numbers, H a key, P a prefix -/
def chgForm : Nat → List UInt8
 | 1 => [76,72,83]
 | 2 => [76]
 | 3 => [76,72,83]
 | 4 => [76,80]
 | 5 => [76,80]
 | _ => []
noncomputable def chgFld (c : Chg) (x : UInt8) (w : List UInt8) : Except Int Chg :=
 if x = 76 then match numW w with
  | some n => .ok { c with link := n }
  | none => .error 223
 else if x = 83 then match numW w with
  | some n => .ok { c with side := n }
  | none => .error 223
 else if x = 72 then match hexW w with
  | some b => .ok { c with key := b }
  | none => .error 225
 else match prsP w with
  | some p => .ok { c with pf := p.1,ph := p.2.1 / 18446744073709551616,pl := p.2.1 % 18446744073709551616,pb := p.2.2 }
  | none => .error 70
noncomputable def chgFlds (c : Chg) : List UInt8 → List (List UInt8) → Except Int Chg
 | x :: xs,w :: ws => match chgFld c x w with
  | .ok c' => chgFlds c' xs ws
  | .error e => .error e
 | _,_ => .ok c
noncomputable def chg : List (List UInt8) → Except Int Chg
 | [] => .error 222
 | w :: ws => if named chgNames w = 0 then .error 222
  else if ws.length ≠ (chgForm (named chgNames w)).length then .error 226
  else chgFlds { chg0 with kind := (named chgNames w : Nat) } (chgForm (named chgNames w)) ws
/-- the words, cut at each comma -/
def splW (cur : List (List UInt8)) : List (List UInt8) → List (List (List UInt8))
 | [] => [cur]
 | w :: r => if w = [44] then cur :: splW [] r else splW (cur ++ [w]) r
noncomputable def chgs (l : List (List UInt8)) : Except Int (List Chg) := if l = [] then .ok [] else mapE chg (splW [] l)
def pow : List UInt8 := [112,111,119,101,114]
def inou : List UInt8 := [105,111]
def fltK (w : List UInt8) : Nat := if w = pow then 1 else if w = inou then 2 else 0
def flts : List (List UInt8) → Except Int (List (Int × Int))
 | k :: n :: r => if fltK k = 0 then .error 222 else match numW n with
  | none => .error 223
  | some v => match flts r with
   | .error e => .error e
   | .ok l => .ok (((v : Int),(fltK k : Int)) :: l)
 | _ => .ok []
structure Opp where
 kind : Int
 a : Int
 k : Int
 t : Int
 x : Int
 link : Int
 data : List UInt8
 sec : Int
 nano : Int
 blk : Int
 wid : Int
 chs : List Chg
 fls : List (Int × Int)
 keep : List Bool
def opp0 : Opp := ⟨0,0,0,0,0,0,[],0,0,0,0,[],[],[]⟩
def stepNames : List (List UInt8) := [[99,111,109,109,105,116],[115,101,110,100],[114,101,107,101,121],[116,105,99,107],[103,105,118,101],[100,114,111,112],[99,111,112,121],[102,108,105,112],[106,117,110,107],[97,114,109],[99,114,97,115,104],[98,111,111,116],[108,111,111,107],[114,117,110]]
/-- A a node, K L T X b w numbers, H bytes, S a stamp, B bits, F faults, C changes -/
def stepForm : Nat → List UInt8
 | 1 => [65,67]
 | 2 => [65,72]
 | 3 => [65,76]
 | 4 => [65,83]
 | 5 => [75]
 | 6 => [75]
 | 7 => [75]
 | 8 => [75,84,88]
 | 9 => [65,72]
 | 10 => [65,70]
 | 11 => [65,66]
 | 12 => [65,98,119]
 | 13 => [65]
 | 14 => [75]
 | _ => []
def setN (o : Opp) (c : UInt8) (n : Int) : Opp :=
 if c = 65 then { o with a := n } else if c = 75 then { o with k := n } else if c = 76 then { o with link := n } else if c = 84 then { o with t := n }
 else if c = 88 then { o with x := n } else if c = 98 then { o with blk := n } else { o with wid := n }
def getN (o : Opp) (c : UInt8) : Int :=
 if c = 65 then o.a else if c = 75 then o.k else if c = 76 then o.link else if c = 84 then o.t
 else if c = 88 then o.x else if c = 98 then o.blk else o.wid
noncomputable def fld (o : Opp) (c : UInt8) (ws : List (List UInt8)) : Except Int Opp :=
 if c = 72 then match hexW (ws.headD []) with
  | some b => .ok { o with data := b }
  | none => .error 225
 else if c = 83 then match prs (ws.headD []) with
  | some p => .ok { o with sec := p.1,nano := p.2 }
  | none => .error 60
 else if c = 66 then match bitW (ws.headD []) with
  | some b => .ok { o with keep := b }
  | none => .error 223
 else if c = 70 then match flts ws with
  | .ok l => .ok { o with fls := l }
  | .error e => .error e
 else if c = 67 then match chgs ws with
  | .ok l => .ok { o with chs := l }
  | .error e => .error e
 else match numW (ws.headD []) with
  | some n => .ok (setN o c n)
  | none => .error 223
noncomputable def flds (o : Opp) : List UInt8 → List (List UInt8) → Except Int Opp
 | [],_ => .ok o
 | c :: cs,ws => match fld o c ws with
  | .ok o' => flds o' cs ws.tail
  | .error e => .error e
def want (f : List UInt8) (n : Nat) : Bool :=
 if f.getLast? = some 67 then decide (1 ≤ n) else if f.getLast? = some 70 then decide (n % 2 = 1) else decide (n = f.length)
noncomputable def stepS : List (List UInt8) → Except Int Opp
 | [] => .error 222
 | w :: ws => if named stepNames w = 0 then .error 222
  else if want (stepForm (named stepNames w)) ws.length = false then .error 226
  else flds { opp0 with kind := (named stepNames w : Nat) } (stepForm (named stepNames w)) ws
def culv : List UInt8 := [99,117,108,118,101,114,116]
def firstS (l : List (List UInt8)) : Except Int Int :=
 if l.head? ≠ some culv then .error 227 else if l.length ≠ 2 then .error 226 else match numW (l.tail.headD []) with
  | some n => .ok n
  | none => .error 223
/-- what is known between two lines: the sectors, once the first line was read, and the steps -/
noncomputable def lineS (st : Option Int × List Opp) (line : List UInt8) : Except Int (Option Int × List Opp) :=
 match wrds line with
 | none => .error 224
 | some [] => .ok st
 | some (w :: ws) => match st.1 with
  | none => match firstS (w :: ws) with
   | .error e => .error e
   | .ok n => .ok (some n,st.2)
  | some n => if 2000 ≤ st.2.length then .error 221 else match stepS (w :: ws) with
   | .error e => .error e
   | .ok o => .ok (some n,st.2 ++ [o])
/-- the lines from a number on: the line and the error, or what is known then -/
noncomputable def goL (st : Option Int × List Opp) (no : Nat) : List (List UInt8) → Except (Nat × Int) (Option Int × List Opp)
 | [] => .ok st
 | l :: r => match lineS st l with
  | .error e => .error (no,e)
  | .ok st' => goL st' (no + 1) r
noncomputable def parseS (t : List UInt8) : Except (Nat × Int) (Int × List Opp) :=
 if 1048576 < t.length then .error (0,221) else match goL (none,[]) 1 (split 10 t) with
  | .error p => .error p
  | .ok (none,_) => .error (0,227)
  | .ok (some n,l) => .ok (n,l)
noncomputable def parseC (t : List UInt8) : Except Int (List Chg) :=
 if 1048576 < t.length then .error 221 else if 10 ∈ t then .error 224 else match wrds t with
  | none => .error 224
  | some l => chgs l
/-- a prefix's text -/
def pX (f : Int) (h l : Nat) (b : Int) : List UInt8 := if vP f h l b = true then prP f (num f h l) b else []
def chgT (c : Chg) : Except Int (List (List UInt8)) :=
 if ¬ (1 ≤ c.kind ∧ c.kind ≤ 5) then .error 222
 else if ((¬ 72 ∈ chgForm c.kind.toNat) ∧ (c.key ≠ [] ∨ c.side ≠ 0)) ∨ ((¬ 80 ∈ chgForm c.kind.toNat) ∧ ¬ (c.pf = 0 ∧ c.ph = 0 ∧ c.pl = 0 ∧ c.pb = 0)) then .error 228
 else if numOk c.link = false ∨ numOk c.side = false then .error 223
 else if 80 ∈ chgForm c.kind.toNat ∧ vP c.pf c.ph c.pl c.pb = false then .error 70
 else .ok ([chgNames.getD (c.kind.toNat - 1) [],decW c.link] ++ (if 72 ∈ chgForm c.kind.toNat then [hexO c.key,decW c.side] else []) ++ (if 80 ∈ chgForm c.kind.toNat then [pX c.pf c.ph c.pl c.pb] else []))
/-- lists of words with the word , between each two -/
def comma : List (List (List UInt8)) → List (List UInt8)
 | [] => []
 | [a] => a
 | a :: b :: r => a ++ [44] :: comma (b :: r)
def chgsT (l : List Chg) : Except Int (List (List UInt8)) :=
 match mapE chgT l with
 | .error e => .error e
 | .ok ls => if 1048576 < (join 32 (comma ls)).length then .error 221 else .ok (comma ls)
def fltT (f : Int × Int) : Except Int (List (List UInt8)) :=
 if f.2 ≠ 1 ∧ f.2 ≠ 2 then .error 222 else if numOk f.1 = false then .error 223 else .ok [if f.2 = 1 then pow else inou,decW f.1]
def fltsT (l : List (Int × Int)) : Except Int (List (List UInt8)) :=
 match mapE fltT l with
 | .error e => .error e
 | .ok ls => .ok ls.flatten
/-- the words of a letter -/
def fldT (o : Opp) (c : UInt8) : Except Int (List (List UInt8)) :=
 if c = 72 then .ok [hexO o.data]
 else if c = 83 then (if vld o.sec o.nano = true then .ok [prt o.sec o.nano] else .error 60)
 else if c = 66 then .ok [bitO o.keep]
 else if c = 70 then fltsT o.fls
 else if c = 67 then chgsT o.chs
 else if numOk (getN o c) = true then .ok [decW (getN o c)] else .error 223
/-- has a step a field that its letters do not name? -/
def spareS (o : Opp) (f : List UInt8) : Bool :=
 decide (o.a ≠ 0 ∧ ¬ 65 ∈ f) || decide (o.k ≠ 0 ∧ ¬ 75 ∈ f) || decide (o.t ≠ 0 ∧ ¬ 84 ∈ f) || decide (o.x ≠ 0 ∧ ¬ 88 ∈ f) || decide (o.link ≠ 0 ∧ ¬ 76 ∈ f)
 || decide (o.data ≠ [] ∧ ¬ 72 ∈ f) || decide ((o.sec ≠ 0 ∨ o.nano ≠ 0) ∧ ¬ 83 ∈ f) || decide (o.blk ≠ 0 ∧ ¬ 98 ∈ f) || decide (o.wid ≠ 0 ∧ ¬ 119 ∈ f)
 || decide (o.chs.length ≠ 0 ∧ ¬ 67 ∈ f) || decide (o.fls ≠ [] ∧ ¬ 70 ∈ f) || decide (o.keep ≠ [] ∧ ¬ 66 ∈ f)
def stepT (o : Opp) : Except Int (List (List UInt8)) :=
 if ¬ (1 ≤ o.kind ∧ o.kind ≤ 14) then .error 222
 else if spareS o (stepForm o.kind.toNat) = true then .error 228
 else match mapE (fldT o) (stepForm o.kind.toNat) with
  | .error e => .error e
  | .ok ls => .ok (stepNames.getD (o.kind.toNat - 1) [] :: ls.flatten)
def lineT (ws : List (List UInt8)) : List UInt8 := join 32 ws ++ [10]
def printS (sec : Int) (l : List Opp) : Except Int (List UInt8) :=
 if numOk sec = false then .error 223 else if 2000 < l.length then .error 221 else match mapE stepT l with
  | .error e => .error e
  | .ok ls => if 1048576 < ((([culv,decW sec] :: ls).map lineT).flatten).length then .error 221 else .ok (([culv,decW sec] :: ls).map lineT).flatten
end Go.Proofs.YtpkmekdpmkfcdaaGreatDoor.Sc
namespace Go.Proofs.YtpkmekdpmkfcdaaGreatDoor.Sc
set_option linter.unusedVariables false
set_option linter.unusedSimpArgs false
open Go.Lib Go.Proofs.YtpkmekdpmkfcdaaGreatDoor.Pl Go.Proofs.YtpkmekdpmkfcdaaGreatDoor.Px
theorem num_back {f : Int} {h l : Nat} (hv : vA f h l = true) (hh : h < 18446744073709551616) (hl : l < 18446744073709551616) : num f h l / 18446744073709551616 = h ∧ num f h l % 18446744073709551616 = l := by
 rcases (vA_iff f h l).1 hv with rfl | ⟨rfl,rfl,hl2⟩
 ·unfold num;rw [if_neg (by decide)];omega
 ·unfold num;rw [if_pos rfl];omega
theorem okA_num {f : Int} {h l : Nat} (hv : vA f h l = true) (hh : h < 18446744073709551616) (hl : l < 18446744073709551616) : okA f (num f h l) = true := by
 rw [okA_iff]
 rcases (vA_iff f h l).1 hv with rfl | ⟨rfl,rfl,hl2⟩
 ·left;refine ⟨rfl,?_⟩;unfold num;rw [if_neg (by decide)];omega
 ·right;refine ⟨rfl,?_⟩;unfold num;rw [if_pos rfl];exact hl2
theorem okP_num {f : Int} {h l : Nat} {b : Int} (hv : vP f h l b = true) (hh : h < 18446744073709551616) (hl : l < 18446744073709551616) : okP f (num f h l) b = true := by
 obtain ⟨h1,h2,h3,h4⟩ := (vP_iff f h l b).1 hv
 exact (okP_iff _ _ _).2 ⟨okA_num h1 hh hl,h2,h3,h4⟩
theorem pX_of {f : Int} {h l : Nat} {b : Int} (hv : vP f h l b = true) : pX f h l b = prP f (num f h l) b := by unfold pX;rw [if_pos hv]
theorem prsP_pX {f : Int} {h l : Nat} {b : Int} (hv : vP f h l b = true) (hh : h < 18446744073709551616) (hl : l < 18446744073709551616) : prsP (pX f h l b) = some (f,num f h l,b) := by
 rw [pX_of hv,prsP_prt (okP_num hv hh hl)]
theorem hex4_ok (g : Nat) : ∀ c ∈ hex4 g,okC c = true ∧ c ≠ 35 := by
 intro c hc
 simp only [hex4,List.mem_cons,List.not_mem_nil,or_false] at hc
 rcases hc with rfl | rfl | rfl | rfl <;> exact hexd_ok _ (Nat.mod_lt _ (by decide))
theorem prA_ok (f : Int) (n : Nat) : ∀ c ∈ prA f n,okC c = true ∧ c ≠ 35 := by
 intro c hc
 unfold prA at hc
 split at hc
 ·split at hc
  ·rcases mem_join _ _ _ hc with rfl | ⟨a,ha,hc⟩
   ·decide
   ·obtain ⟨d,_,rfl⟩ := List.mem_map.1 ha
    exact dig_okC (decDigits_dig _ c hc)
  ·rcases mem_join _ _ _ hc with rfl | ⟨a,ha,hc⟩
   ·decide
   ·obtain ⟨d,_,rfl⟩ := List.mem_map.1 ha
    exact hex4_ok _ c hc
 ·simp at hc
theorem pX_ok {f : Int} {h l : Nat} {b : Int} (hv : vP f h l b = true) (hh : h < 18446744073709551616) (hl : l < 18446744073709551616) : okW (pX f h l b) := by
 rw [pX_of hv,prP_of (okP_num hv hh hl)]
 refine ⟨by simp,fun c hc => ?_⟩
 rw [List.mem_append,List.mem_cons] at hc
 rcases hc with hc | rfl | hc
 ·exact prA_ok _ _ c hc
 ·decide
 ·exact dig_okC (decDigits_dig _ c hc)
theorem pX_comma {f : Int} {h l : Nat} {b : Int} (hv : vP f h l b = true) (hh : h < 18446744073709551616) (hl : l < 18446744073709551616) : pX f h l b ≠ [44] := by
 rw [pX_of hv,prP_of (okP_num hv hh hl)]
 intro e
 have := congrArg (fun l => decide ((47 : UInt8) ∈ l)) e
 simp at this
theorem decW_comma (n : Int) : decW n ≠ [44] := by
 intro e
 have := decDigits_dig n.toNat 44 (by show 44 ∈ decW n;rw [e];simp)
 exact absurd this (by decide)
theorem hexO_comma (b : List UInt8) : hexO b ≠ [44] := by
 by_cases h : b = []
 ·subst h;decide
 ·rw [hexO_ne h]
  cases b with
  | nil => exact absurd rfl h
  | cons c r => simp [hx]
structure ChgIn (c : Chg) : Prop where
 h : c.ph < 18446744073709551616
 l : c.pl < 18446744073709551616
/-- words that are told apart from the comma -/
def okL (ws : List (List UInt8)) : Prop := ws ≠ [] ∧ ∀ w ∈ ws,okW w ∧ w ≠ [44]
theorem chgNames_ok : ∀ k,1 ≤ k → k ≤ 5 → okW (chgNames.getD (k - 1) []) ∧ chgNames.getD (k - 1) [] ≠ [44] ∧ named chgNames (chgNames.getD (k - 1) []) = k := by
 intro k h1 h2
 have : k = 1 ∨ k = 2 ∨ k = 3 ∨ k = 4 ∨ k = 5 := by omega
 rcases this with rfl | rfl | rfl | rfl | rfl <;> (refine ⟨⟨by decide,by decide⟩,by decide,by decide⟩)
theorem chgFld_L (c : Chg) {n : Int} (h : numOk n = true) : chgFld c 76 (decW n) = .ok { c with link := n } := by
 have := of_decide_eq_true h
 unfold chgFld;rw [if_pos rfl,numW_dec h]
 simp only
 rw [show ((n.toNat : Nat) : Int) = n by omega]
theorem chgFld_S (c : Chg) {n : Int} (h : numOk n = true) : chgFld c 83 (decW n) = .ok { c with side := n } := by
 have := of_decide_eq_true h
 unfold chgFld;rw [if_neg (by decide),if_pos rfl,numW_dec h]
 simp only
 rw [show ((n.toNat : Nat) : Int) = n by omega]
theorem chgFld_H (c : Chg) (b : List UInt8) : chgFld c 72 (hexO b) = .ok { c with key := b } := by
 unfold chgFld;rw [if_neg (by decide),if_neg (by decide),if_pos rfl,hexW_hexO]
theorem chgFld_P (c : Chg) {f : Int} {h l : Nat} {b : Int} (hv : vP f h l b = true) (hh : h < 18446744073709551616) (hl : l < 18446744073709551616) : chgFld c 80 (pX f h l b) = .ok { c with pf := f,ph := h,pl := l,pb := b } := by
 have := num_back ((vP_iff f h l b).1 hv).1 hh hl
 unfold chgFld;rw [if_neg (by decide),if_neg (by decide),if_neg (by decide),prsP_pX hv hh hl]
 simp only [this.1,this.2]
theorem chg_cons (w : List UInt8) (ws : List (List UInt8)) : chg (w :: ws) = if named chgNames w = 0 then .error 222
  else if ws.length ≠ (chgForm (named chgNames w)).length then .error 226
  else chgFlds { chg0 with kind := (named chgNames w : Nat) } (chgForm (named chgNames w)) ws := rfl
theorem chg_back {c : Chg} {ws : List (List UInt8)} (hin : ChgIn c) (h : chgT c = .ok ws) : chg ws = .ok c ∧ okL ws := by
 unfold chgT at h
 split at h
 ·cases h
 rename_i hk
 have hk := Classical.not_not.1 hk
 split at h
 ·cases h
 rename_i hs
 split at h
 ·cases h
 rename_i hn
 split at h
 ·cases h
 rename_i hp
 injection h with h
 subst h
 have n1 : numOk c.link = true := by cases e : numOk c.link with
  | true => rfl
  | false => exact absurd (.inl e) hn
 have n2 : numOk c.side = true := by cases e : numOk c.side with
  | true => rfl
  | false => exact absurd (.inr e) hn
 obtain ⟨kind,link,side,key,pf,ph,pl,pb⟩ := c
 obtain ⟨hh,hl⟩ := hin
 simp only at hk hs hn hp n1 n2 hh hl ⊢
 obtain ⟨K,rfl⟩ : ∃ K : Nat,kind = (K : Int) := ⟨kind.toNat,by omega⟩
 have hK : 1 ≤ K ∧ K ≤ 5 := by omega
 rw [Int.toNat_natCast] at hs hp ⊢
 have := hK.1
 have h5 := hK.2
 have hc : K = 1 ∨ K = 2 ∨ K = 3 ∨ K = 4 ∨ K = 5 := by omega
 have hgo : ∀ K : Nat,∀ ws,(hN : named chgNames (chgNames.getD (K - 1) []) = K) → K ≠ 0 → ws.length = (chgForm K).length → chg (chgNames.getD (K - 1) [] :: ws) = chgFlds { chg0 with kind := (K : Int) } (chgForm K) ws := by
  intro K ws hN h0 hl
  rw [chg_cons,hN,if_neg h0,if_neg (by rw [hl];simp)]
 have hd := chgNames_ok K hK.1 hK.2
 have okl : ∀ a b : List (List UInt8),okL a → (∀ w ∈ b,okW w ∧ w ≠ [44]) → okL (a ++ b) := by
  intro a b ha hb
  refine ⟨by simp [ha.1],fun w hw => ?_⟩
  rw [List.mem_append] at hw
  rcases hw with hw | hw
  ·exact ha.2 w hw
  ·exact hb w hw
 have hb : okL [chgNames.getD (K - 1) [],decW link] := by
  refine ⟨by simp,fun w hw => ?_⟩
  simp only [List.mem_cons,List.not_mem_nil,or_false] at hw
  rcases hw with rfl | rfl
  ·exact ⟨hd.1,hd.2.1⟩
  ·exact ⟨decW_ok _,decW_comma _⟩
 have hk2 : ∀ w ∈ [hexO key,decW side],okW w ∧ w ≠ [44] := by
  intro w hw
  simp only [List.mem_cons,List.not_mem_nil,or_false] at hw
  rcases hw with rfl | rfl
  ·exact ⟨hexO_ok _,hexO_comma _⟩
  ·exact ⟨decW_ok _,decW_comma _⟩
 rcases hc with rfl | rfl | rfl | rfl | rfl
 ·have f1 : (72 : UInt8) ∈ chgForm 1 := by decide
  have f2 : ¬ (80 : UInt8) ∈ chgForm 1 := by decide
  rw [if_pos f1,if_neg f2,List.append_nil] at *
  have hz : pf = 0 ∧ ph = 0 ∧ pl = 0 ∧ pb = 0 := Classical.byContradiction fun h => hs (.inr ⟨f2,h⟩)
  obtain ⟨rfl,rfl,rfl,rfl⟩ := hz
  refine ⟨?_,okl _ _ hb hk2⟩
  rw [List.cons_append,hgo 1 _ hd.2.2 (by decide) rfl]
  show chgFlds _ [76,72,83] [decW link,hexO key,decW side] = _
  simp only [chgFlds,chgFld_L _ n1,chgFld_H,chgFld_S _ n2]
  rfl
 ·have f1 : ¬ (72 : UInt8) ∈ chgForm 2 := by decide
  have f2 : ¬ (80 : UInt8) ∈ chgForm 2 := by decide
  rw [if_neg f1,if_neg f2,List.append_nil,List.append_nil] at *
  have hz : pf = 0 ∧ ph = 0 ∧ pl = 0 ∧ pb = 0 := Classical.byContradiction fun h => hs (.inr ⟨f2,h⟩)
  have hy : key = [] ∧ side = 0 := Classical.byContradiction fun h => hs (.inl ⟨f1,by
   by_cases e : key = []
   ·exact .inr fun e2 => h ⟨e,e2⟩
   ·exact .inl e⟩)
  obtain ⟨rfl,rfl,rfl,rfl⟩ := hz
  obtain ⟨rfl,rfl⟩ := hy
  refine ⟨?_,hb⟩
  rw [hgo 2 _ hd.2.2 (by decide) rfl]
  show chgFlds _ [76] [decW link] = _
  simp only [chgFlds,chgFld_L _ n1]
  rfl
 ·have f1 : (72 : UInt8) ∈ chgForm 3 := by decide
  have f2 : ¬ (80 : UInt8) ∈ chgForm 3 := by decide
  rw [if_pos f1,if_neg f2,List.append_nil] at *
  have hz : pf = 0 ∧ ph = 0 ∧ pl = 0 ∧ pb = 0 := Classical.byContradiction fun h => hs (.inr ⟨f2,h⟩)
  obtain ⟨rfl,rfl,rfl,rfl⟩ := hz
  refine ⟨?_,okl _ _ hb hk2⟩
  rw [List.cons_append,hgo 3 _ hd.2.2 (by decide) rfl]
  show chgFlds _ [76,72,83] [decW link,hexO key,decW side] = _
  simp only [chgFlds,chgFld_L _ n1,chgFld_H,chgFld_S _ n2]
  rfl
 ·have f1 : ¬ (72 : UInt8) ∈ chgForm 4 := by decide
  have f2 : (80 : UInt8) ∈ chgForm 4 := by decide
  rw [if_neg f1,if_pos f2,List.append_nil] at *
  have hy : key = [] ∧ side = 0 := Classical.byContradiction fun h => hs (.inl ⟨f1,by
   by_cases e : key = []
   ·exact .inr fun e2 => h ⟨e,e2⟩
   ·exact .inl e⟩)
  obtain ⟨rfl,rfl⟩ := hy
  have hv : vP pf ph pl pb = true := by cases e : vP pf ph pl pb with
   | true => rfl
   | false => exact absurd ⟨f2,e⟩ hp
  refine ⟨?_,okl _ _ hb fun w hw => ?_⟩
  ·rw [List.cons_append,hgo 4 _ hd.2.2 (by decide) rfl]
   show chgFlds _ [76,80] [decW link,pX pf ph pl pb] = _
   simp only [chgFlds,chgFld_L _ n1,chgFld_P _ hv hh hl]
   rfl
  ·simp only [List.mem_cons,List.not_mem_nil,or_false] at hw
   subst hw
   exact ⟨pX_ok hv hh hl,pX_comma hv hh hl⟩
 ·have f1 : ¬ (72 : UInt8) ∈ chgForm 5 := by decide
  have f2 : (80 : UInt8) ∈ chgForm 5 := by decide
  rw [if_neg f1,if_pos f2,List.append_nil] at *
  have hy : key = [] ∧ side = 0 := Classical.byContradiction fun h => hs (.inl ⟨f1,by
   by_cases e : key = []
   ·exact .inr fun e2 => h ⟨e,e2⟩
   ·exact .inl e⟩)
  obtain ⟨rfl,rfl⟩ := hy
  have hv : vP pf ph pl pb = true := by cases e : vP pf ph pl pb with
   | true => rfl
   | false => exact absurd ⟨f2,e⟩ hp
  refine ⟨?_,okl _ _ hb fun w hw => ?_⟩
  ·rw [List.cons_append,hgo 5 _ hd.2.2 (by decide) rfl]
   show chgFlds _ [76,80] [decW link,pX pf ph pl pb] = _
   simp only [chgFlds,chgFld_L _ n1,chgFld_P _ hv hh hl]
   rfl
  ·simp only [List.mem_cons,List.not_mem_nil,or_false] at hw
   subst hw
   exact ⟨pX_ok hv hh hl,pX_comma hv hh hl⟩
theorem splW_word (cur a r : List (List UInt8)) (h : ∀ w ∈ a,w ≠ [44]) : splW cur (a ++ r) = splW (cur ++ a) r := by
 induction a generalizing cur with
 | nil => simp
 | cons w a ih =>
  rw [List.cons_append,splW,if_neg (h w (by simp)),ih _ (fun x hx => h x (by simp [hx]))]
  simp
theorem splW_comma (ls : List (List (List UInt8))) (hne : ls ≠ []) (h : ∀ a ∈ ls,∀ w ∈ a,w ≠ [44]) : splW [] (comma ls) = ls := by
 induction ls with
 | nil => exact absurd rfl hne
 | cons a r ih =>
  cases r with
  | nil =>
   have := splW_word [] a [] (h a (by simp))
   rw [List.append_nil] at this
   show splW [] a = _
   rw [this];rfl
  | cons b r =>
   show splW [] (a ++ [44] :: comma (b :: r)) = _
   rw [splW_word [] a _ (h a (by simp)),List.nil_append,splW,if_pos rfl,ih (by simp) (fun x hx => h x (by simp [hx]))]
theorem mapE_ok {α β : Type} {f : α → Except Int β} {l : List α} {bs : List β} (h : mapE f l = .ok bs) : bs.length = l.length ∧ ∀ (i : Nat) a b,l[i]? = some a → bs[i]? = some b → f a = .ok b := by
 induction l generalizing bs with
 | nil => rw [mapE] at h;injection h with h;subst h;exact ⟨rfl,fun i a b h1 h2 => by simp at h1⟩
 | cons a r ih =>
  rw [mapE] at h
  cases e : f a with
  | error x => rw [e] at h;cases h
  | ok b =>
   rw [e] at h
   simp only at h
   cases e2 : mapE f r with
   | error x => rw [e2] at h;cases h
   | ok cs =>
    rw [e2] at h
    injection h with h
    subst h
    obtain ⟨h1,h2⟩ := ih e2
    refine ⟨by simp [h1],fun i x y hx hy => ?_⟩
    cases i with
    | zero => simp at hx hy;subst hx hy;exact e
    | succ i => simp at hx hy;exact h2 i x y hx hy
theorem mapE_back {α β : Type} {f : α → Except Int β} {g : β → Except Int α} {l : List α} {bs : List β} (h : mapE f l = .ok bs) (hg : ∀ a ∈ l,∀ b,f a = .ok b → g b = .ok a) : mapE g bs = .ok l := by
 induction l generalizing bs with
 | nil => rw [mapE] at h;injection h with h;subst h;rfl
 | cons a r ih =>
  rw [mapE] at h
  cases e : f a with
  | error x => rw [e] at h;cases h
  | ok b =>
   rw [e] at h
   simp only at h
   cases e2 : mapE f r with
   | error x => rw [e2] at h;cases h
   | ok cs =>
    rw [e2] at h
    injection h with h
    subst h
    rw [mapE,hg a (by simp) b e,ih e2 (fun x hx => hg x (by simp [hx]))]
theorem mapE_mem {α β : Type} {f : α → Except Int β} {l : List α} {bs : List β} (h : mapE f l = .ok bs) : ∀ b ∈ bs,∃ a ∈ l,f a = .ok b := by
 induction l generalizing bs with
 | nil => rw [mapE] at h;injection h with h;subst h;simp
 | cons a r ih =>
  rw [mapE] at h
  cases e : f a with
  | error x => rw [e] at h;cases h
  | ok b =>
   rw [e] at h
   simp only at h
   cases e2 : mapE f r with
   | error x => rw [e2] at h;cases h
   | ok cs =>
    rw [e2] at h
    injection h with h
    subst h
    intro y hy
    rcases List.mem_cons.1 hy with rfl | hy
    ·exact ⟨a,by simp,e⟩
    ·obtain ⟨x,hx,hx2⟩ := ih e2 y hy
     exact ⟨x,by simp [hx],hx2⟩
theorem comma_mem {ls : List (List (List UInt8))} {w : List UInt8} (h : w ∈ comma ls) : w = [44] ∨ ∃ a ∈ ls,w ∈ a := by
 induction ls with
 | nil => simp [comma] at h
 | cons a r ih =>
  cases r with
  | nil => exact .inr ⟨a,by simp,h⟩
  | cons b r =>
   rw [comma,List.mem_append,List.mem_cons] at h
   rcases h with h | h | h
   ·exact .inr ⟨a,by simp,h⟩
   ·exact .inl h
   ·rcases ih h with h | ⟨x,hx,h⟩
    ·exact .inl h
    ·exact .inr ⟨x,by simp [hx],h⟩
theorem comma_ne {ls : List (List (List UInt8))} (hne : ls ≠ []) (h : ∀ a ∈ ls,a ≠ []) : comma ls ≠ [] := by
 cases ls with
 | nil => exact absurd rfl hne
 | cons a r =>
  have := h a (by simp)
  cases r with
  | nil => exact this
  | cons b r => rw [comma];simp
theorem chgs_back {l : List Chg} {ws : List (List UInt8)} (hin : ∀ c ∈ l,ChgIn c) (h : chgsT l = .ok ws) : chgs ws = .ok l ∧ (∀ w ∈ ws,okW w) ∧ (l ≠ [] → ws ≠ []) := by
 unfold chgsT at h
 cases e : mapE chgT l with
 | error x => rw [e] at h;cases h
 | ok ls =>
  rw [e] at h
  simp only at h
  split at h
  ·cases h
  injection h with h
  subst h
  have hall : ∀ a ∈ ls,okL a := fun a ha => by
   obtain ⟨c,hc,hc2⟩ := mapE_mem e a ha
   exact (chg_back (hin c hc) hc2).2
  have hw : ∀ w ∈ comma ls,okW w := fun w hw => by
   rcases comma_mem hw with rfl | ⟨a,ha,hw⟩
   ·exact ⟨by decide,by decide⟩
   ·exact ((hall a ha).2 w hw).1
  have hlen := (mapE_ok e).1
  cases l with
  | nil =>
   have : ls = [] := List.eq_nil_of_length_eq_zero hlen
   subst this
   exact ⟨rfl,hw,fun h => absurd rfl h⟩
  | cons c r =>
   have hne : ls ≠ [] := by intro e;subst e;simp at hlen
   have hc := comma_ne hne fun a ha => (hall a ha).1
   refine ⟨?_,hw,fun _ => hc⟩
   unfold chgs
   rw [if_neg hc,splW_comma ls hne fun a ha w hw => ((hall a ha).2 w hw).2]
   exact mapE_back e fun c hc b hb => (chg_back (hin c hc) hb).1
theorem flts_back {l : List (Int × Int)} {ws : List (List UInt8)} (h : fltsT l = .ok ws) : flts ws = .ok l ∧ (∀ w ∈ ws,okW w) ∧ ws.length = 2 * l.length := by
 unfold fltsT at h
 induction l generalizing ws with
 | nil => rw [mapE] at h;injection h with h;subst h;exact ⟨rfl,by simp,rfl⟩
 | cons f r ih =>
  obtain ⟨at_,kd⟩ := f
  rw [mapE] at h
  cases e : fltT (at_,kd) with
  | error x => rw [e] at h;cases h
  | ok b =>
   rw [e] at h
   simp only at h
   cases e2 : mapE fltT r with
   | error x => rw [e2] at h;cases h
   | ok cs =>
    rw [e2] at h
    injection h with h
    subst h
    obtain ⟨h1,h2,h3⟩ := ih (ws := cs.flatten) (by rw [e2])
    unfold fltT at e
    split at e
    ·cases e
    rename_i hk
    split at e
    ·cases e
    rename_i hn
    injection e with e
    subst e
    simp only at hk hn
    have hn : numOk at_ = true := by simpa using hn
    have hn2 := of_decide_eq_true hn
    have hkd : kd = 1 ∨ kd = 2 := by omega
    refine ⟨?_,?_,by simp [h3];omega⟩
    ·rcases hkd with rfl | rfl
     ·show flts (pow :: decW at_ :: cs.flatten) = _
      rw [flts,if_neg (by decide),numW_dec hn,h1]
      simp only
      rw [show ((at_.toNat : Nat) : Int) = at_ by omega,show ((fltK pow : Nat) : Int) = 1 by decide]
     ·show flts (inou :: decW at_ :: cs.flatten) = _
      rw [flts,if_neg (by decide),numW_dec hn,h1]
      simp only
      rw [show ((at_.toNat : Nat) : Int) = at_ by omega,show ((fltK inou : Nat) : Int) = 2 by decide]
    ·intro w hw
     simp only [List.flatten_cons,List.cons_append,List.nil_append,List.mem_cons] at hw
     rcases hw with rfl | rfl | hw
     ·split <;> exact ⟨by decide,by decide⟩
     ·exact decW_ok _
     ·exact h2 w hw
end Go.Proofs.YtpkmekdpmkfcdaaGreatDoor.Sc
namespace Go.Proofs.YtpkmekdpmkfcdaaGreatDoor.Sc
set_option linter.unusedVariables false
set_option linter.unusedSimpArgs false
open Go.Lib Go.Proofs.YtpkmekdpmkfcdaaGreatDoor.Pl Go.Proofs.YtpkmekdpmkfcdaaGreatDoor.Px
structure OppIn (o : Opp) : Prop where
 sec : o.sec ≤ 9223372036854775807
 chs : ∀ c ∈ o.chs,ChgIn c
/-- the letter's field taken from another step -/
def setL (o' o : Opp) (c : UInt8) : Opp :=
 if c = 72 then { o' with data := o.data } else if c = 83 then { o' with sec := o.sec,nano := o.nano } else if c = 66 then { o' with keep := o.keep }
 else if c = 70 then { o' with fls := o.fls } else if c = 67 then { o' with chs := o.chs } else setN o' c (getN o c)
theorem padTo_ok (n : Nat) (c : UInt8) (h : c ∈ padTo 9 (decDigits n)) : isDig c = true := by
 unfold padTo at h
 rw [List.mem_append] at h
 rcases h with h | h
 ·rw [List.eq_of_mem_replicate h];decide
 ·exact decDigits_dig _ c h
theorem prt_ok {s n : Int} (h : vld s n = true) : okW (prt s n) := by
 rw [prt_of s n h]
 refine ⟨by simp,fun c hc => ?_⟩
 rw [List.mem_append,List.mem_cons] at hc
 rcases hc with hc | rfl | hc
 ·exact dig_okC (decDigits_dig _ c hc)
 ·decide
 ·exact dig_okC (padTo_ok _ c hc)
theorem fld_one {o : Opp} (hin : OppIn o) {c : UInt8} (h1 : c ≠ 70) (h2 : c ≠ 67) {ws : List (List UInt8)} (h : fldT o c = .ok ws) :
  ∃ w,ws = [w] ∧ okW w ∧ ∀ o' r,fld o' c (w :: r) = .ok (setL o' o c) := by
 unfold fldT at h
 split at h
 ·rename_i e
  injection h with h;subst h;subst e
  exact ⟨_,rfl,hexO_ok _,fun o' r => by unfold fld setL;rw [if_pos rfl,if_pos rfl,List.headD_cons,hexW_hexO]⟩
 rename_i c1
 split at h
 ·rename_i e
  subst e
  split at h
  ·rename_i hv
   injection h with h;subst h
   exact ⟨_,rfl,prt_ok hv,fun o' r => by unfold fld setL;rw [if_neg (by decide),if_pos rfl,if_neg (by decide),if_pos rfl,List.headD_cons,prs_prt hv hin.sec]⟩
  ·cases h
 rename_i c2
 split at h
 ·rename_i e
  injection h with h;subst h;subst e
  exact ⟨_,rfl,bitO_ok _,fun o' r => by unfold fld setL;rw [if_neg (by decide),if_neg (by decide),if_pos rfl,if_neg (by decide),if_neg (by decide),if_pos rfl,List.headD_cons,bitW_bitO]⟩
 rename_i c3
 split at h
 ·rename_i hn
  injection h with h;subst h
  have hn2 := of_decide_eq_true hn
  refine ⟨_,rfl,decW_ok _,fun o' r => ?_⟩
  unfold fld setL
  rw [if_neg c1,if_neg c2,if_neg c3,if_neg h1,if_neg h2,if_neg c1,if_neg c2,if_neg c3,if_neg h1,if_neg h2,List.headD_cons,numW_dec hn]
  simp only
  rw [show (((getN o c).toNat : Nat) : Int) = getN o c by omega]
 ·cases h
theorem fld_F {o : Opp} {ws : List (List UInt8)} (h : fldT o 70 = .ok ws) : (∀ o',fld o' 70 ws = .ok (setL o' o 70)) ∧ (∀ w ∈ ws,okW w) ∧ ws.length % 2 = 0 := by
 unfold fldT at h
 rw [if_neg (by decide),if_neg (by decide),if_neg (by decide),if_pos rfl] at h
 obtain ⟨h1,h2,h3⟩ := flts_back h
 refine ⟨fun o' => ?_,h2,by omega⟩
 unfold fld setL
 rw [if_neg (by decide),if_neg (by decide),if_neg (by decide),if_pos rfl,if_neg (by decide),if_neg (by decide),if_neg (by decide),if_pos rfl,h1]
theorem fld_C {o : Opp} (hin : OppIn o) {ws : List (List UInt8)} (h : fldT o 67 = .ok ws) : (∀ o',fld o' 67 ws = .ok (setL o' o 67)) ∧ (∀ w ∈ ws,okW w) := by
 unfold fldT at h
 rw [if_neg (by decide),if_neg (by decide),if_neg (by decide),if_neg (by decide),if_pos rfl] at h
 obtain ⟨h1,h2,h3⟩ := chgs_back hin.chs h
 refine ⟨fun o' => ?_,h2⟩
 unfold fld setL
 rw [if_neg (by decide),if_neg (by decide),if_neg (by decide),if_neg (by decide),if_pos rfl,if_neg (by decide),if_neg (by decide),if_neg (by decide),if_neg (by decide),if_pos rfl,h1]
theorem flds_one {o : Opp} (hin : OppIn o) (f g : List UInt8) (hf : ∀ c ∈ f,c ≠ 70 ∧ c ≠ 67) {ls : List (List (List UInt8))} (h : mapE (fldT o) (f ++ g) = .ok ls) :
  ∃ vs ms,mapE (fldT o) g = .ok ms ∧ ls.flatten = vs ++ ms.flatten ∧ vs.length = f.length ∧ (∀ w ∈ vs,okW w) ∧ ∀ o' r,flds o' (f ++ g) (vs ++ r) = flds (f.foldl (fun a c => setL a o c) o') g r := by
 induction f generalizing ls with
 | nil => exact ⟨[],ls,h,rfl,rfl,by simp,fun o' r => rfl⟩
 | cons c f ih =>
  rw [List.cons_append,mapE] at h
  cases e : fldT o c with
  | error x => rw [e] at h;cases h
  | ok b =>
   rw [e] at h
   simp only at h
   cases e2 : mapE (fldT o) (f ++ g) with
   | error x => rw [e2] at h;cases h
   | ok cs =>
    rw [e2] at h
    injection h with h
    subst h
    obtain ⟨w,rfl,hw,hfld⟩ := fld_one hin (hf c (by simp)).1 (hf c (by simp)).2 e
    obtain ⟨vs,ms,h1,h2,h3,h4,h5⟩ := ih (fun x hx => hf x (by simp [hx])) e2
    refine ⟨w :: vs,ms,h1,by rw [List.flatten_cons,h2];rfl,by simp [h3],fun x hx => ?_,fun o' r => ?_⟩
    ·rcases List.mem_cons.1 hx with rfl | hx
     ·exact hw
     ·exact h4 x hx
    ·rw [List.cons_append,List.cons_append,flds,hfld]
     simp only [List.tail_cons,List.foldl_cons]
     exact h5 _ _
theorem mapE_one {α β : Type} {f : α → Except Int β} {a : α} {bs : List β} (h : mapE f [a] = .ok bs) : ∃ b,f a = .ok b ∧ bs = [b] := by
 rw [mapE] at h
 cases e : f a with
 | error x => rw [e] at h;cases h
 | ok b => rw [e] at h;injection h with h;exact ⟨b,rfl,h.symm⟩
theorem stepNames_ok : ∀ k,1 ≤ k → k ≤ 14 → okW (stepNames.getD (k - 1) []) ∧ named stepNames (stepNames.getD (k - 1) []) = k := by
 intro k h1 h2
 have : k = 1 ∨ k = 2 ∨ k = 3 ∨ k = 4 ∨ k = 5 ∨ k = 6 ∨ k = 7 ∨ k = 8 ∨ k = 9 ∨ k = 10 ∨ k = 11 ∨ k = 12 ∨ k = 13 ∨ k = 14 := by omega
 rcases this with rfl | rfl | rfl | rfl | rfl | rfl | rfl | rfl | rfl | rfl | rfl | rfl | rfl | rfl <;> exact ⟨⟨by decide,by decide⟩,by decide⟩
theorem stepS_cons (w : List UInt8) (ws : List (List UInt8)) : stepS (w :: ws) = if named stepNames w = 0 then .error 222
  else if want (stepForm (named stepNames w)) ws.length = false then .error 226
  else flds { opp0 with kind := (named stepNames w : Nat) } (stepForm (named stepNames w)) ws := rfl
theorem step_gives {o : Opp} (hin : OppIn o) (K : Nat) (f g : List UInt8) (hK : stepForm K = f ++ g) (hf : ∀ c ∈ f,c ≠ 70 ∧ c ≠ 67) (h1 : 1 ≤ K) (h2 : K ≤ 14)
  (hg : (g = [] ∧ (stepForm K).getLast? ≠ some 67 ∧ (stepForm K).getLast? ≠ some 70) ∨ (g = [67] ∧ f ≠ []) ∨ (g = [70] ∧ f.length = 1))
  {ls : List (List (List UInt8))} (h : mapE (fldT o) (stepForm K) = .ok ls) :
  stepS (stepNames.getD (K - 1) [] :: ls.flatten) = .ok ((stepForm K).foldl (fun a c => setL a o c) { opp0 with kind := (K : Int) }) ∧ ∀ w ∈ ls.flatten,okW w := by
 obtain ⟨hn1,hn2⟩ := stepNames_ok K h1 h2
 rw [hK] at h
 obtain ⟨vs,ms,a1,a2,a3,a4,a5⟩ := flds_one hin f g hf h
 have fin : ∀ (hw : want (stepForm K) ls.flatten.length = true),stepS (stepNames.getD (K - 1) [] :: ls.flatten) = flds (f.foldl (fun a c => setL a o c) { opp0 with kind := (K : Int) }) g ms.flatten := by
  intro hw
  rw [stepS_cons,hn2,if_neg (by omega),if_neg (by rw [hw];simp),hK,a2]
  exact a5 _ _
 rcases hg with ⟨rfl,l1,l2⟩ | ⟨rfl,hne⟩ | ⟨rfl,hl⟩
 ·rw [mapE] at a1
  injection a1 with a1
  subst a1
  rw [List.flatten_nil,List.append_nil] at a2
  refine ⟨?_,by rw [a2];exact a4⟩
  rw [fin,flds,hK,List.append_nil]
  unfold want
  rw [if_neg l1,if_neg l2,a2,a3,hK,List.append_nil]
  simp
 ·obtain ⟨b,hb,rfl⟩ := mapE_one a1
  obtain ⟨b1,b2⟩ := fld_C hin hb
  rw [List.flatten_cons,List.flatten_nil,List.append_nil] at a2 fin
  refine ⟨?_,by rw [a2];intro w hw;rw [List.mem_append] at hw;rcases hw with hw | hw;exact a4 w hw;exact b2 w hw⟩
  rw [fin,flds,b1]
  ·simp only [flds]
   rw [hK,List.foldl_append]
   rfl
  ·unfold want
   rw [hK,List.getLast?_append]
   simp only [List.getLast?_singleton,Option.some_or,if_true]
   rw [a2,List.length_append,a3]
   have : f.length ≠ 0 := fun e => hne (List.eq_nil_of_length_eq_zero e)
   exact decide_eq_true (by omega)
 ·obtain ⟨b,hb,rfl⟩ := mapE_one a1
  obtain ⟨b1,b2,b3⟩ := fld_F hb
  rw [List.flatten_cons,List.flatten_nil,List.append_nil] at a2 fin
  refine ⟨?_,by rw [a2];intro w hw;rw [List.mem_append] at hw;rcases hw with hw | hw;exact a4 w hw;exact b2 w hw⟩
  rw [fin,flds,b1]
  ·simp only [flds]
   rw [hK,List.foldl_append]
   rfl
  ·unfold want
   rw [hK,List.getLast?_append]
   simp only [List.getLast?_singleton,Option.some_or]
   rw [if_neg (by decide),if_pos trivial,a2,List.length_append,a3,hl]
   exact decide_eq_true (by omega)
theorem step_back {o : Opp} {ws : List (List UInt8)} (hin : OppIn o) (h : stepT o = .ok ws) : stepS ws = .ok o ∧ ws ≠ [] ∧ ∀ w ∈ ws,okW w := by
 unfold stepT at h
 split at h
 ·cases h
 rename_i hk
 have hk := Classical.not_not.1 hk
 split at h
 ·cases h
 rename_i hs
 obtain ⟨K,hKe⟩ : ∃ K : Nat,o.kind = (K : Int) := ⟨o.kind.toNat,by omega⟩
 have hK : 1 ≤ K ∧ K ≤ 14 := by omega
 rw [hKe,Int.toNat_natCast] at h hs
 cases e : mapE (fldT o) (stepForm K) with
 | error x => rw [e] at h;cases h
 | ok ls =>
  rw [e] at h
  injection h with h
  subst h
  have key : stepS (stepNames.getD (K - 1) [] :: ls.flatten) = .ok ((stepForm K).foldl (fun a c => setL a o c) { opp0 with kind := (K : Int) }) ∧ ∀ w ∈ ls.flatten,okW w := by
   have hc : K = 1 ∨ K = 2 ∨ K = 3 ∨ K = 4 ∨ K = 5 ∨ K = 6 ∨ K = 7 ∨ K = 8 ∨ K = 9 ∨ K = 10 ∨ K = 11 ∨ K = 12 ∨ K = 13 ∨ K = 14 := by omega
   rcases hc with rfl | rfl | rfl | rfl | rfl | rfl | rfl | rfl | rfl | rfl | rfl | rfl | rfl | rfl
   ·exact step_gives hin 1 [65] [67] rfl (by decide) (by decide) (by decide) (.inr (.inl ⟨rfl,by decide⟩)) e
   ·exact step_gives hin 2 [65,72] [] rfl (by decide) (by decide) (by decide) (.inl ⟨rfl,by decide,by decide⟩) e
   ·exact step_gives hin 3 [65,76] [] rfl (by decide) (by decide) (by decide) (.inl ⟨rfl,by decide,by decide⟩) e
   ·exact step_gives hin 4 [65,83] [] rfl (by decide) (by decide) (by decide) (.inl ⟨rfl,by decide,by decide⟩) e
   ·exact step_gives hin 5 [75] [] rfl (by decide) (by decide) (by decide) (.inl ⟨rfl,by decide,by decide⟩) e
   ·exact step_gives hin 6 [75] [] rfl (by decide) (by decide) (by decide) (.inl ⟨rfl,by decide,by decide⟩) e
   ·exact step_gives hin 7 [75] [] rfl (by decide) (by decide) (by decide) (.inl ⟨rfl,by decide,by decide⟩) e
   ·exact step_gives hin 8 [75,84,88] [] rfl (by decide) (by decide) (by decide) (.inl ⟨rfl,by decide,by decide⟩) e
   ·exact step_gives hin 9 [65,72] [] rfl (by decide) (by decide) (by decide) (.inl ⟨rfl,by decide,by decide⟩) e
   ·exact step_gives hin 10 [65] [70] rfl (by decide) (by decide) (by decide) (.inr (.inr ⟨rfl,by decide⟩)) e
   ·exact step_gives hin 11 [65,66] [] rfl (by decide) (by decide) (by decide) (.inl ⟨rfl,by decide,by decide⟩) e
   ·exact step_gives hin 12 [65,98,119] [] rfl (by decide) (by decide) (by decide) (.inl ⟨rfl,by decide,by decide⟩) e
   ·exact step_gives hin 13 [65] [] rfl (by decide) (by decide) (by decide) (.inl ⟨rfl,by decide,by decide⟩) e
   ·exact step_gives hin 14 [75] [] rfl (by decide) (by decide) (by decide) (.inl ⟨rfl,by decide,by decide⟩) e
  refine ⟨key.1.trans ?_,by simp,fun w hw => ?_⟩
  ·congr 1
   obtain ⟨kind,a,k,t,x,link,data,sec,nano,blk,wid,chs,fls,keep⟩ := o
   simp only at hKe
   subst hKe
   have hc : K = 1 ∨ K = 2 ∨ K = 3 ∨ K = 4 ∨ K = 5 ∨ K = 6 ∨ K = 7 ∨ K = 8 ∨ K = 9 ∨ K = 10 ∨ K = 11 ∨ K = 12 ∨ K = 13 ∨ K = 14 := by omega
   rcases hc with rfl | rfl | rfl | rfl | rfl | rfl | rfl | rfl | rfl | rfl | rfl | rfl | rfl | rfl <;>
    (simp [spareS,stepForm] at hs;simp [stepForm,setL,setN,getN,opp0,hs])
  ·rcases List.mem_cons.1 hw with rfl | hw
   ·exact (stepNames_ok K hK.1 hK.2).1
   ·exact key.2 w hw
theorem join_no {ws : List (List UInt8)} (h : ∀ w ∈ ws,okW w) : (10 : UInt8) ∉ join 32 ws := by
 intro hc
 rcases mem_join _ _ _ hc with e | ⟨a,ha,hc⟩
 ·exact absurd e (by decide)
 ·exact absurd ((h a ha).2 10 hc).1 (by decide)
theorem split_lines (ls : List (List (List UInt8))) (h : ∀ ws ∈ ls,∀ w ∈ ws,okW w) : split 10 (ls.map lineT).flatten = ls.map (join 32) ++ [[]] := by
 induction ls with
 | nil => rfl
 | cons a r ih =>
  rw [List.map_cons,List.flatten_cons,lineT,List.append_assoc]
  show split 10 (join 32 a ++ 10 :: (r.map lineT).flatten) = _
  rw [split_cut 10 _ _ (join_no (h a (by simp))),ih (fun x hx => h x (by simp [hx]))]
  rfl
theorem goL_steps (n : Int) (l : List Opp) : ∀ (ls : List (List (List UInt8))) (dn : List Opp) (no : Nat),mapE stepT l = .ok ls → (∀ o ∈ l,OppIn o) → dn.length + l.length ≤ 2000 →
  goL (some n,dn) no (ls.map (join 32) ++ [[]]) = .ok (some n,dn ++ l) := by
 induction l with
 | nil =>
  intro ls dn no h _ _
  rw [mapE] at h
  injection h with h
  subst h
  simp [goL,lineS,wrds,wds,flw]
 | cons o r ih =>
  intro ls dn no h hin hl
  rw [mapE] at h
  cases e : stepT o with
  | error x => rw [e] at h;cases h
  | ok b =>
   rw [e] at h
   simp only at h
   cases e2 : mapE stepT r with
   | error x => rw [e2] at h;cases h
   | ok cs =>
    rw [e2] at h
    injection h with h
    subst h
    obtain ⟨h1,h2,h3⟩ := step_back (hin o (by simp)) e
    simp only [List.length_cons] at hl
    rw [List.map_cons,List.cons_append,goL]
    have hl1 : lineS (some n,dn) (join 32 b) = .ok (some n,dn ++ [o]) := by
     unfold lineS
     rw [wrds_join b h3]
     cases b with
     | nil => exact absurd rfl h2
     | cons w ws =>
      simp only
      rw [if_neg (by omega),h1]
    rw [hl1]
    simp only
    rw [ih cs (dn ++ [o]) (no + 1) e2 (fun x hx => hin x (by simp [hx])) (by simp;omega),List.append_assoc]
    rfl
theorem culv_ok : okW culv := ⟨by decide,by decide⟩
theorem print_back {n : Int} {l : List Opp} {t : List UInt8} (hin : ∀ o ∈ l,OppIn o) (h : printS n l = .ok t) : parseS t = .ok (n,l) ∧ l.length ≤ 2000 := by
 unfold printS at h
 split at h
 ·cases h
 rename_i hn
 split at h
 ·cases h
 rename_i hl
 cases e : mapE stepT l with
 | error x => rw [e] at h;cases h
 | ok ls =>
  rw [e] at h
  simp only at h
  split at h
  ·cases h
  rename_i hsz
  injection h with h
  have hw : ∀ ws ∈ [culv,decW n] :: ls,∀ w ∈ ws,okW w := by
   intro ws hws w hw
   rcases List.mem_cons.1 hws with rfl | hws
   ·simp only [List.mem_cons,List.not_mem_nil,or_false] at hw
    rcases hw with rfl | rfl
    ·exact culv_ok
    ·exact decW_ok _
   ·obtain ⟨o,ho,ho2⟩ := mapE_mem e ws hws
    exact (step_back (hin o ho) ho2).2.2 w hw
  have hn : numOk n = true := by simpa using hn
  have hn2 := of_decide_eq_true hn
  refine ⟨?_,by omega⟩
  unfold parseS
  rw [← h,if_neg hsz,split_lines _ hw,List.map_cons,List.cons_append,goL]
  have h1 : lineS (none,[]) (join 32 [culv,decW n]) = .ok (some n,[]) := by
   unfold lineS
   rw [wrds_join _ (hw _ (by simp))]
   simp only [firstS,List.head?_cons,List.length_cons,List.length_nil,List.tail_cons,List.headD_cons,numW_dec hn]
   rw [if_neg (by simp),if_neg (by simp)]
   simp only
   rw [show ((n.toNat : Nat) : Int) = n by omega]
  rw [h1]
  simp only
  rw [goL_steps n l ls [] 2 e hin (by simp;omega)]
  simp
end Go.Proofs.YtpkmekdpmkfcdaaGreatDoor.Sc
namespace Go.Proofs.YtpkmekdpmkfcdaaGreatDoor.Sc
set_option linter.unusedVariables false
set_option linter.unusedSimpArgs false
open Go.Lib Go.Proofs.YtpkmekdpmkfcdaaGreatDoor.Pl Go.Proofs.YtpkmekdpmkfcdaaGreatDoor.Px
theorem named_le (l : List (List UInt8)) (w : List UInt8) : named l w ≤ l.length := by
 induction l with
 | nil => exact Nat.le_refl _
 | cons a r ih =>
  rw [named,List.length_cons]
  split
  ·omega
  ·split <;> omega
theorem numOk_nat {n : Nat} (h : n ≤ 4294967295) : numOk (n : Int) = true := decide_eq_true (by omega)
theorem vP_split {f : Int} {N : Nat} {b : Int} (h : okP f N b = true) : vP f (N / 18446744073709551616) (N % 18446744073709551616) b = true ∧ N / 18446744073709551616 < 18446744073709551616 ∧ N % 18446744073709551616 < 18446744073709551616 := by
 obtain ⟨h1,h2,h3,h4⟩ := (okP_iff f N b).1 h
 rcases (okA_iff f N).1 h1 with ⟨rfl,hN⟩ | ⟨rfl,hN⟩
 ·refine ⟨(vP_iff _ _ _ _).2 ⟨(vA_iff _ _ _).2 (.inl rfl),h2,h3,?_⟩,by omega,by omega⟩
  have : num 6 (N / 18446744073709551616) (N % 18446744073709551616) = N := by unfold num;rw [if_neg (by decide)];omega
  rw [this];exact h4
 ·refine ⟨(vP_iff _ _ _ _).2 ⟨(vA_iff _ _ _).2 (.inr ⟨rfl,by omega,by omega⟩),h2,h3,?_⟩,by omega,by omega⟩
  have : num 4 (N / 18446744073709551616) (N % 18446744073709551616) = N := by unfold num;rw [if_pos rfl];omega
  rw [this];exact h4
theorem chgFld_Li {c c' : Chg} {w : List UInt8} (h : chgFld c 76 w = .ok c') : ∃ n : Nat,n ≤ 4294967295 ∧ c' = { c with link := n } := by
 unfold chgFld at h
 rw [if_pos rfl] at h
 cases e : numW w with
 | none => rw [e] at h;cases h
 | some n => rw [e] at h;injection h with h;exact ⟨n,numW_le e,h.symm⟩
theorem chgFld_Si {c c' : Chg} {w : List UInt8} (h : chgFld c 83 w = .ok c') : ∃ n : Nat,n ≤ 4294967295 ∧ c' = { c with side := n } := by
 unfold chgFld at h
 rw [if_neg (by decide),if_pos rfl] at h
 cases e : numW w with
 | none => rw [e] at h;cases h
 | some n => rw [e] at h;injection h with h;exact ⟨n,numW_le e,h.symm⟩
theorem chgFld_Hi {c c' : Chg} {w : List UInt8} (h : chgFld c 72 w = .ok c') : ∃ b,c' = { c with key := b } := by
 unfold chgFld at h
 rw [if_neg (by decide),if_neg (by decide),if_pos rfl] at h
 cases e : hexW w with
 | none => rw [e] at h;cases h
 | some n => rw [e] at h;injection h with h;exact ⟨n,h.symm⟩
theorem chgFld_Pi {c c' : Chg} {w : List UInt8} (h : chgFld c 80 w = .ok c') : ∃ f hi lo b,vP f hi lo b = true ∧ hi < 18446744073709551616 ∧ lo < 18446744073709551616 ∧ c' = { c with pf := f,ph := hi,pl := lo,pb := b } := by
 unfold chgFld at h
 rw [if_neg (by decide),if_neg (by decide),if_neg (by decide)] at h
 cases e : prsP w with
 | none => rw [e] at h;cases h
 | some p =>
  obtain ⟨f,n,b⟩ := p
  rw [e] at h
  injection h with h
  obtain ⟨h1,h2,h3⟩ := vP_split (prsP_some e).1
  exact ⟨_,_,_,_,h1,h2,h3,h.symm⟩
theorem flds_ok {c c' : Chg} {x : UInt8} {xs : List UInt8} {w : List UInt8} {ws : List (List UInt8)} (h : chgFlds c (x :: xs) (w :: ws) = .ok c') : ∃ c1,chgFld c x w = .ok c1 ∧ chgFlds c1 xs ws = .ok c' := by
 rw [chgFlds] at h
 cases e : chgFld c x w with
 | error y => rw [e] at h;cases h
 | ok c1 => rw [e] at h;exact ⟨c1,rfl,h⟩
theorem len3 {α : Type} {l : List α} (h : l.length = 3) : ∃ a b c,l = [a,b,c] := by
 match l,h with
 | [a,b,c],_ => exact ⟨a,b,c,rfl⟩
theorem len2 {α : Type} {l : List α} (h : l.length = 2) : ∃ a b,l = [a,b] := by
 match l,h with
 | [a,b],_ => exact ⟨a,b,rfl⟩
theorem len1 {α : Type} {l : List α} (h : l.length = 1) : ∃ a,l = [a] := by
 match l,h with
 | [a],_ => exact ⟨a,rfl⟩
def GoodC (c : Chg) : Prop := ChgIn c ∧ ∃ ws,chgT c = .ok ws
theorem good3 (K : Nat) (hK : K = 1 ∨ K = 3) (n m : Nat) (b : List UInt8) (hn : n ≤ 4294967295) (hm : m ≤ 4294967295) : GoodC ⟨(K : Int),n,m,b,0,0,0,0⟩ := by
 refine ⟨⟨by show 0 < _;decide,by show 0 < _;decide⟩,?_⟩
 have e : chgForm (K : Int).toNat = [76,72,83] := by rw [Int.toNat_natCast];rcases hK with rfl | rfl <;> rfl
 unfold chgT
 simp only [e]
 rw [if_neg (by omega),if_neg (by simp),if_neg (by simp [numOk_nat hn,numOk_nat hm]),if_neg (by simp)]
 exact ⟨_,rfl⟩
theorem good1 (n : Nat) (hn : n ≤ 4294967295) : GoodC ⟨2,n,0,[],0,0,0,0⟩ := by
 refine ⟨⟨by show 0 < _;decide,by show 0 < _;decide⟩,?_⟩
 have e : chgForm (2 : Int).toNat = [76] := rfl
 unfold chgT
 simp only [e]
 rw [if_neg (by omega),if_neg (by simp),if_neg (by rw [numOk_nat hn];simp [numOk]),if_neg (by simp)]
 exact ⟨_,rfl⟩
theorem good2 (K : Nat) (hK : K = 4 ∨ K = 5) (n : Nat) (f : Int) (h l : Nat) (b : Int) (hn : n ≤ 4294967295) (hv : vP f h l b = true) (hh : h < 18446744073709551616) (hl : l < 18446744073709551616) : GoodC ⟨(K : Int),n,0,[],f,h,l,b⟩ := by
 refine ⟨⟨hh,hl⟩,?_⟩
 have e : chgForm (K : Int).toNat = [76,80] := by rw [Int.toNat_natCast];rcases hK with rfl | rfl <;> rfl
 unfold chgT
 simp only [e]
 rw [if_neg (by omega),if_neg (by simp),if_neg (by rw [numOk_nat hn];simp [numOk]),if_neg (by simp [hv])]
 exact ⟨_,rfl⟩
theorem chg_good {ws : List (List UInt8)} {c : Chg} (h : chg ws = .ok c) : GoodC c := by
 cases ws with
 | nil => cases h
 | cons w ws =>
  rw [chg_cons] at h
  split at h
  ·cases h
  rename_i h0
  split at h
  ·cases h
  rename_i hl
  have hl := Classical.not_not.1 hl
  have hle : named chgNames w ≤ 5 := named_le _ _
  generalize named chgNames w = K at h h0 hl hle
  have hc : K = 1 ∨ K = 2 ∨ K = 3 ∨ K = 4 ∨ K = 5 := by omega
  rcases hc with rfl | rfl | rfl | rfl | rfl
  ·obtain ⟨x,y,z,rfl⟩ := len3 hl
   obtain ⟨c1,h1,h⟩ := flds_ok h
   obtain ⟨c2,h2,h⟩ := flds_ok h
   obtain ⟨c3,h3,h⟩ := flds_ok h
   obtain ⟨n,hn,rfl⟩ := chgFld_Li h1
   obtain ⟨b,rfl⟩ := chgFld_Hi h2
   obtain ⟨m,hm,rfl⟩ := chgFld_Si h3
   injection h with h
   subst h
   exact good3 1 (.inl rfl) n m b hn hm
  ·obtain ⟨x,rfl⟩ := len1 hl
   obtain ⟨c1,h1,h⟩ := flds_ok h
   obtain ⟨n,hn,rfl⟩ := chgFld_Li h1
   injection h with h
   subst h
   exact good1 n hn
  ·obtain ⟨x,y,z,rfl⟩ := len3 hl
   obtain ⟨c1,h1,h⟩ := flds_ok h
   obtain ⟨c2,h2,h⟩ := flds_ok h
   obtain ⟨c3,h3,h⟩ := flds_ok h
   obtain ⟨n,hn,rfl⟩ := chgFld_Li h1
   obtain ⟨b,rfl⟩ := chgFld_Hi h2
   obtain ⟨m,hm,rfl⟩ := chgFld_Si h3
   injection h with h
   subst h
   exact good3 3 (.inr rfl) n m b hn hm
  ·obtain ⟨x,y,rfl⟩ := len2 hl
   obtain ⟨c1,h1,h⟩ := flds_ok h
   obtain ⟨c2,h2,h⟩ := flds_ok h
   obtain ⟨n,hn,rfl⟩ := chgFld_Li h1
   obtain ⟨f,hi,lo,b,hv,hh,hl2,rfl⟩ := chgFld_Pi h2
   injection h with h
   subst h
   exact good2 4 (.inl rfl) n f hi lo b hn hv hh hl2
  ·obtain ⟨x,y,rfl⟩ := len2 hl
   obtain ⟨c1,h1,h⟩ := flds_ok h
   obtain ⟨c2,h2,h⟩ := flds_ok h
   obtain ⟨n,hn,rfl⟩ := chgFld_Li h1
   obtain ⟨f,hi,lo,b,hv,hh,hl2,rfl⟩ := chgFld_Pi h2
   injection h with h
   subst h
   exact good2 5 (.inr rfl) n f hi lo b hn hv hh hl2
theorem mapE_good {α β : Type} {f : α → Except Int β} {l : List α} (h : ∀ a ∈ l,∃ b,f a = .ok b) : ∃ bs,mapE f l = .ok bs := by
 induction l with
 | nil => exact ⟨[],rfl⟩
 | cons a r ih =>
  obtain ⟨b,hb⟩ := h a (by simp)
  obtain ⟨bs,hbs⟩ := ih fun x hx => h x (by simp [hx])
  exact ⟨b :: bs,by rw [mapE,hb,hbs]⟩
theorem mapE_fair {α β : Type} {f : α → Except Int β} {l : List α} (h : ∀ a ∈ l,(∃ b,f a = .ok b) ∨ f a = .error 221) : (∃ bs,mapE f l = .ok bs) ∨ mapE f l = .error 221 := by
 induction l with
 | nil => exact .inl ⟨[],rfl⟩
 | cons a r ih =>
  rcases h a (by simp) with ⟨b,hb⟩ | hb
  ·rcases ih fun x hx => h x (by simp [hx]) with ⟨bs,hbs⟩ | hbs
   ·exact .inl ⟨b :: bs,by rw [mapE,hb,hbs]⟩
   ·exact .inr (by rw [mapE,hb,hbs])
  ·exact .inr (by rw [mapE,hb])
theorem chgs_good {ws : List (List UInt8)} {l : List Chg} (h : chgs ws = .ok l) : ∀ c ∈ l,GoodC c := by
 unfold chgs at h
 split at h
 ·injection h with h;subst h;simp
 ·intro c hc
  obtain ⟨a,-,ha⟩ := mapE_mem h c hc
  exact chg_good ha
theorem flts_good (n : Nat) : ∀ (ws : List (List UInt8)) (l : List (Int × Int)),ws.length ≤ n → flts ws = .ok l → ∀ f ∈ l,∃ b,fltT f = .ok b := by
 induction n with
 | zero =>
  intro ws l hl h
  have : ws = [] := List.eq_nil_of_length_eq_zero (by omega)
  subst this
  injection h with h;subst h;simp
 | succ n ih =>
  intro ws l hl h
  match ws,h with
  | [],h => injection h with h;subst h;simp
  | [_],h => injection h with h;subst h;simp
  | k :: m :: r,h =>
   rw [flts] at h
   split at h
   ·cases h
   rename_i hk
   cases e : numW m with
   | none => rw [e] at h;cases h
   | some v =>
    rw [e] at h
    simp only at h
    cases e2 : flts r with
    | error x => rw [e2] at h;cases h
    | ok l2 =>
     rw [e2] at h
     injection h with h
     subst h
     intro f hf
     rcases List.mem_cons.1 hf with rfl | hf
     ·unfold fltT
      have : fltK k = 1 ∨ fltK k = 2 := by
       unfold fltK at hk ⊢
       split
       ·exact .inl rfl
       ·split
        ·exact .inr rfl
        ·rename_i h1 h2;rw [if_neg h1,if_neg h2] at hk;exact absurd rfl hk
      simp only
      rw [if_neg (by omega),if_neg (by rw [numOk_nat (numW_le e)];simp)]
      exact ⟨_,rfl⟩
     ·simp only [List.length_cons] at hl
      exact ih r l2 (by omega) e2 f hf
/-- every field may be written -/
structure Good (o : Opp) : Prop where
 n : ∀ c,numOk (getN o c) = true
 st : vld o.sec o.nano = true
 inn : OppIn o
 fl : ∀ f ∈ o.fls,∃ b,fltT f = .ok b
 ch : ∀ c ∈ o.chs,GoodC c
theorem good_zero (k : Int) : Good { opp0 with kind := k } := by
 refine ⟨fun c => ?_,(by decide : vld 0 0 = true),⟨by show (0 : Int) ≤ _;decide,by simp [opp0]⟩,by simp [opp0],by simp [opp0]⟩
 simp [getN,opp0,numOk]
theorem getN_setN (o : Opp) (x : UInt8) (n : Int) (c : UInt8) : getN (setN o x n) c = n ∨ getN (setN o x n) c = getN o c := by
 unfold setN
 repeat' split
 all_goals (unfold getN;simp only;repeat' split)
 all_goals first | exact .inl rfl | exact .inr rfl
theorem fld_good {o o' : Opp} {c : UInt8} {ws : List (List UInt8)} (hg : Good o) (h : fld o c ws = .ok o') : Good o' := by
 obtain ⟨gn,gs,gi,gf,gc⟩ := hg
 unfold fld at h
 split at h
 ·cases e : hexW (ws.headD []) with
  | none => rw [e] at h;cases h
  | some b => rw [e] at h;injection h with h;subst h;exact ⟨gn,gs,⟨gi.sec,gi.chs⟩,gf,gc⟩
 split at h
 ·cases e : prs (ws.headD []) with
  | none => rw [e] at h;cases h
  | some p =>
   rw [e] at h;injection h with h;subst h
   obtain ⟨s,n⟩ := p
   have := prs_some e
   exact ⟨gn,this.1,⟨this.2.1,gi.chs⟩,gf,gc⟩
 split at h
 ·cases e : bitW (ws.headD []) with
  | none => rw [e] at h;cases h
  | some b => rw [e] at h;injection h with h;subst h;exact ⟨gn,gs,⟨gi.sec,gi.chs⟩,gf,gc⟩
 split at h
 ·cases e : flts ws with
  | error x => rw [e] at h;cases h
  | ok l => rw [e] at h;injection h with h;subst h;exact ⟨gn,gs,⟨gi.sec,gi.chs⟩,flts_good _ ws l (Nat.le_refl _) e,gc⟩
 split at h
 ·cases e : chgs ws with
  | error x => rw [e] at h;cases h
  | ok l =>
   rw [e] at h;injection h with h;subst h
   have := chgs_good e
   exact ⟨gn,gs,⟨gi.sec,fun c hc => (this c hc).1⟩,gf,this⟩
 cases e : numW (ws.headD []) with
 | none => rw [e] at h;cases h
 | some n =>
  rw [e] at h;injection h with h;subst h
  have hk := numOk_nat (numW_le e)
  refine ⟨fun x => ?_,?_,⟨?_,?_⟩,?_,?_⟩
  ·rcases getN_setN o c n x with e | e <;> rw [e]
   ·exact hk
   ·exact gn x
  all_goals (unfold setN;repeat' split)
  all_goals first | exact gs | exact gi.sec | exact gi.chs | exact gf | exact gc
theorem flds_good (f : List UInt8) : ∀ (o o' : Opp) (ws : List (List UInt8)),Good o → flds o f ws = .ok o' → Good o' := by
 induction f with
 | nil => intro o o' ws hg h;rw [flds] at h;injection h with h;subst h;exact hg
 | cons c f ih =>
  intro o o' ws hg h
  rw [flds] at h
  cases e : fld o c ws with
  | error x => rw [e] at h;cases h
  | ok o1 => rw [e] at h;exact ih o1 o' _ (fld_good hg e) h
theorem fldT_fair {o : Opp} (hg : Good o) (c : UInt8) : (∃ b,fldT o c = .ok b) ∨ fldT o c = .error 221 := by
 unfold fldT
 split
 ·exact .inl ⟨_,rfl⟩
 split
 ·rw [if_pos hg.st];exact .inl ⟨_,rfl⟩
 split
 ·exact .inl ⟨_,rfl⟩
 split
 ·obtain ⟨bs,hb⟩ := mapE_good hg.fl
  unfold fltsT;rw [hb];exact .inl ⟨_,rfl⟩
 split
 ·obtain ⟨bs,hb⟩ := mapE_good fun c hc => (hg.ch c hc).2
  unfold chgsT;rw [hb]
  simp only
  split
  ·exact .inr rfl
  ·exact .inl ⟨_,rfl⟩
 rw [if_pos (hg.n c)];exact .inl ⟨_,rfl⟩
/-- only fields that letters name -/
def known : List UInt8 := [65,75,76,84,88,98,119,72,83,66,70,67]
theorem spare_fld {o o' : Opp} {c : UInt8} {ws : List (List UInt8)} {S : List UInt8} (hk : c ∈ known) (hc : c ∈ S) (hs : spareS o S = false) (h : fld o c ws = .ok o') : spareS o' S = false := by
 unfold spareS at hs ⊢
 simp only [Bool.or_eq_false_iff,decide_eq_false_iff_not] at hs ⊢
 obtain ⟨⟨⟨⟨⟨⟨⟨⟨⟨⟨⟨s1,s2⟩,s3⟩,s4⟩,s5⟩,s6⟩,s7⟩,s8⟩,s9⟩,s10⟩,s11⟩,s12⟩ := hs
 unfold fld at h
 split at h
 ·rename_i e;subst e
  cases e : hexW (ws.headD []) with
  | none => rw [e] at h;cases h
  | some b => rw [e] at h;injection h with h;subst h;exact ⟨⟨⟨⟨⟨⟨⟨⟨⟨⟨⟨s1,s2⟩,s3⟩,s4⟩,s5⟩,fun x => x.2 hc⟩,s7⟩,s8⟩,s9⟩,s10⟩,s11⟩,s12⟩
 split at h
 ·rename_i e;subst e
  cases e : prs (ws.headD []) with
  | none => rw [e] at h;cases h
  | some p => rw [e] at h;injection h with h;subst h;exact ⟨⟨⟨⟨⟨⟨⟨⟨⟨⟨⟨s1,s2⟩,s3⟩,s4⟩,s5⟩,s6⟩,fun x => x.2 hc⟩,s8⟩,s9⟩,s10⟩,s11⟩,s12⟩
 split at h
 ·rename_i e;subst e
  cases e : bitW (ws.headD []) with
  | none => rw [e] at h;cases h
  | some b => rw [e] at h;injection h with h;subst h;exact ⟨⟨⟨⟨⟨⟨⟨⟨⟨⟨⟨s1,s2⟩,s3⟩,s4⟩,s5⟩,s6⟩,s7⟩,s8⟩,s9⟩,s10⟩,s11⟩,fun x => x.2 hc⟩
 split at h
 ·rename_i e;subst e
  cases e : flts ws with
  | error x => rw [e] at h;cases h
  | ok l => rw [e] at h;injection h with h;subst h;exact ⟨⟨⟨⟨⟨⟨⟨⟨⟨⟨⟨s1,s2⟩,s3⟩,s4⟩,s5⟩,s6⟩,s7⟩,s8⟩,s9⟩,s10⟩,fun x => x.2 hc⟩,s12⟩
 split at h
 ·rename_i e;subst e
  cases e : chgs ws with
  | error x => rw [e] at h;cases h
  | ok l => rw [e] at h;injection h with h;subst h;exact ⟨⟨⟨⟨⟨⟨⟨⟨⟨⟨⟨s1,s2⟩,s3⟩,s4⟩,s5⟩,s6⟩,s7⟩,s8⟩,s9⟩,fun x => x.2 hc⟩,s11⟩,s12⟩
 rename_i c1 c2 c3 c4 c5
 cases e : numW (ws.headD []) with
 | none => rw [e] at h;cases h
 | some n =>
  rw [e] at h;injection h with h;subst h
  unfold setN
  split
  ·rename_i e;subst e;exact ⟨⟨⟨⟨⟨⟨⟨⟨⟨⟨⟨fun x => x.2 hc,s2⟩,s3⟩,s4⟩,s5⟩,s6⟩,s7⟩,s8⟩,s9⟩,s10⟩,s11⟩,s12⟩
  split
  ·rename_i e;subst e;exact ⟨⟨⟨⟨⟨⟨⟨⟨⟨⟨⟨s1,fun x => x.2 hc⟩,s3⟩,s4⟩,s5⟩,s6⟩,s7⟩,s8⟩,s9⟩,s10⟩,s11⟩,s12⟩
  split
  ·rename_i e;subst e;exact ⟨⟨⟨⟨⟨⟨⟨⟨⟨⟨⟨s1,s2⟩,s3⟩,s4⟩,fun x => x.2 hc⟩,s6⟩,s7⟩,s8⟩,s9⟩,s10⟩,s11⟩,s12⟩
  split
  ·rename_i e;subst e;exact ⟨⟨⟨⟨⟨⟨⟨⟨⟨⟨⟨s1,s2⟩,fun x => x.2 hc⟩,s4⟩,s5⟩,s6⟩,s7⟩,s8⟩,s9⟩,s10⟩,s11⟩,s12⟩
  split
  ·rename_i e;subst e;exact ⟨⟨⟨⟨⟨⟨⟨⟨⟨⟨⟨s1,s2⟩,s3⟩,fun x => x.2 hc⟩,s5⟩,s6⟩,s7⟩,s8⟩,s9⟩,s10⟩,s11⟩,s12⟩
  split
  ·rename_i e;subst e;exact ⟨⟨⟨⟨⟨⟨⟨⟨⟨⟨⟨s1,s2⟩,s3⟩,s4⟩,s5⟩,s6⟩,s7⟩,fun x => x.2 hc⟩,s9⟩,s10⟩,s11⟩,s12⟩
  ·rename_i d1 d2 d3 d4 d5 d6
   have : c = 119 := by
    simp only [known,List.mem_cons,List.not_mem_nil,or_false] at hk
    rcases hk with h | h | h | h | h | h | h | h | h | h | h | h
    ·exact absurd h d1
    ·exact absurd h d2
    ·exact absurd h d3
    ·exact absurd h d4
    ·exact absurd h d5
    ·exact absurd h d6
    ·exact h
    ·exact absurd h c1
    ·exact absurd h c2
    ·exact absurd h c3
    ·exact absurd h c4
    ·exact absurd h c5
   subst this
   exact ⟨⟨⟨⟨⟨⟨⟨⟨⟨⟨⟨s1,s2⟩,s3⟩,s4⟩,s5⟩,s6⟩,s7⟩,s8⟩,fun x => x.2 hc⟩,s10⟩,s11⟩,s12⟩
theorem spare_flds (S : List UInt8) (f : List UInt8) : ∀ (o o' : Opp) (ws : List (List UInt8)),(∀ c ∈ f,c ∈ known ∧ c ∈ S) → spareS o S = false → flds o f ws = .ok o' → spareS o' S = false := by
 induction f with
 | nil => intro o o' ws _ hs h;rw [flds] at h;injection h with h;subst h;exact hs
 | cons c f ih =>
  intro o o' ws hf hs h
  rw [flds] at h
  cases e : fld o c ws with
  | error x => rw [e] at h;cases h
  | ok o1 =>
   rw [e] at h
   exact ih o1 o' _ (fun x hx => hf x (by simp [hx])) (spare_fld (hf c (by simp)).1 (hf c (by simp)).2 hs e) h
theorem kind_fld {o o' : Opp} {c : UInt8} {ws : List (List UInt8)} (h : fld o c ws = .ok o') : o'.kind = o.kind := by
 unfold fld at h
 split at h
 ·split at h
  ·injection h with h;subst h;rfl
  ·cases h
 split at h
 ·split at h
  ·injection h with h;subst h;rfl
  ·cases h
 split at h
 ·split at h
  ·injection h with h;subst h;rfl
  ·cases h
 split at h
 ·split at h
  ·injection h with h;subst h;rfl
  ·cases h
 split at h
 ·split at h
  ·injection h with h;subst h;rfl
  ·cases h
 split at h
 ·injection h with h;subst h;unfold setN;repeat' split
  all_goals rfl
 ·cases h
theorem kind_flds (f : List UInt8) : ∀ (o o' : Opp) (ws : List (List UInt8)),flds o f ws = .ok o' → o'.kind = o.kind := by
 induction f with
 | nil => intro o o' ws h;rw [flds] at h;injection h with h;subst h;rfl
 | cons c f ih =>
  intro o o' ws h
  rw [flds] at h
  cases e : fld o c ws with
  | error x => rw [e] at h;cases h
  | ok o1 => rw [e] at h;exact (ih o1 o' _ h).trans (kind_fld e)
theorem step_fair {ws : List (List UInt8)} {o : Opp} (h : stepS ws = .ok o) : OppIn o ∧ ((∃ b,stepT o = .ok b) ∨ stepT o = .error 221) := by
 cases ws with
 | nil => cases h
 | cons w ws =>
  rw [stepS_cons] at h
  split at h
  ·cases h
  rename_i h0
  split at h
  ·cases h
  have hle : named stepNames w ≤ 14 := named_le _ _
  generalize named stepNames w = K at h h0 hle
  have hg := flds_good _ _ _ _ (good_zero _) h
  have hk := kind_flds _ _ _ _ h
  have hf : ∀ c ∈ stepForm K,c ∈ known ∧ c ∈ stepForm K := by
   have : ∀ k,k ≤ 14 → ∀ c ∈ stepForm k,c ∈ known := by
    intro k hk
    have hc : k = 0 ∨ k = 1 ∨ k = 2 ∨ k = 3 ∨ k = 4 ∨ k = 5 ∨ k = 6 ∨ k = 7 ∨ k = 8 ∨ k = 9 ∨ k = 10 ∨ k = 11 ∨ k = 12 ∨ k = 13 ∨ k = 14 := by omega
    rcases hc with rfl | rfl | rfl | rfl | rfl | rfl | rfl | rfl | rfl | rfl | rfl | rfl | rfl | rfl | rfl <;> decide
   exact fun c hc => ⟨this K hle c hc,hc⟩
  have hs := spare_flds (stepForm K) (stepForm K) _ _ _ hf (by simp [spareS,opp0]) h
  have hk : o.kind = (K : Int) := hk
  refine ⟨hg.inn,?_⟩
  unfold stepT
  rw [hk,Int.toNat_natCast,if_neg (by omega),if_neg (by rw [hs];simp)]
  rcases mapE_fair (fun c (_ : c ∈ stepForm K) => fldT_fair hg c) with ⟨bs,hb⟩ | hb
  ·rw [hb];exact .inl ⟨_,rfl⟩
  ·rw [hb];exact .inr rfl
/-- what was read so far may be written -/
structure Fair (st : Option Int × List Opp) : Prop where
 n : ∀ n,st.1 = some n → numOk n = true
 l : st.2.length ≤ 2000
 o : ∀ o ∈ st.2,OppIn o ∧ ((∃ b,stepT o = .ok b) ∨ stepT o = .error 221)
theorem line_fair {st st' : Option Int × List Opp} {line : List UInt8} (hf : Fair st) (h : lineS st line = .ok st') : Fair st' := by
 unfold lineS at h
 cases e : wrds line with
 | none => rw [e] at h;cases h
 | some ws =>
  rw [e] at h
  cases ws with
  | nil => injection h with h;subst h;exact hf
  | cons w ws =>
   simp only at h
   cases e1 : st.1 with
   | none =>
    rw [e1] at h
    simp only at h
    cases e2 : firstS (w :: ws) with
    | error x => rw [e2] at h;cases h
    | ok n =>
     rw [e2] at h
     injection h with h
     subst h
     refine ⟨fun m hm => ?_,hf.l,hf.o⟩
     injection hm with hm
     subst hm
     unfold firstS at e2
     split at e2
     ·cases e2
     split at e2
     ·cases e2
     cases e3 : numW (List.headD (w :: ws).tail []) with
     | none => rw [e3] at e2;cases e2
     | some k => rw [e3] at e2;injection e2 with e2;subst e2;exact numOk_nat (numW_le e3)
   | some n =>
    rw [e1] at h
    simp only at h
    split at h
    ·cases h
    rename_i hl
    cases e2 : stepS (w :: ws) with
    | error x => rw [e2] at h;cases h
    | ok o =>
     rw [e2] at h
     injection h with h
     subst h
     refine ⟨fun m hm => ?_,by simp;omega,fun x hx => ?_⟩
     ·injection hm with hm;subst hm;exact hf.n _ e1
     ·rcases List.mem_append.1 hx with hx | hx
      ·exact hf.o x hx
      ·rw [List.mem_singleton] at hx;subst hx;exact step_fair e2
theorem goL_fair (ls : List (List UInt8)) : ∀ (st st' : Option Int × List Opp) (no : Nat),Fair st → goL st no ls = .ok st' → Fair st' := by
 induction ls with
 | nil => intro st st' no hf h;rw [goL] at h;injection h with h;subst h;exact hf
 | cons l r ih =>
  intro st st' no hf h
  rw [goL] at h
  cases e : lineS st l with
  | error x => rw [e] at h;cases h
  | ok st1 => rw [e] at h;exact ih st1 st' _ (line_fair hf e) h
theorem parse_fair {t : List UInt8} {n : Int} {l : List Opp} (h : parseS t = .ok (n,l)) : (∀ o ∈ l,OppIn o) ∧ l.length ≤ 2000 ∧ ((∃ u,printS n l = .ok u) ∨ printS n l = .error 221) := by
 unfold parseS at h
 split at h
 ·cases h
 cases e : goL (none,[]) 1 (split 10 t) with
 | error x => rw [e] at h;cases h
 | ok st =>
  rw [e] at h
  obtain ⟨a,b⟩ := st
  cases a with
  | none => cases h
  | some m =>
   injection h with h
   injection h with h1 h2
   subst h1 h2
   have hf := goL_fair _ _ _ _ ⟨by simp,by simp,by simp⟩ e
   refine ⟨fun o ho => (hf.o o ho).1,hf.l,?_⟩
   have hl := hf.l
   unfold printS
   rw [if_neg (by rw [hf.n m rfl];simp),if_neg (by simp only at hl;omega)]
   rcases mapE_fair fun o ho => (hf.o o ho).2 with ⟨bs,hb⟩ | hb
   ·rw [hb]
    simp only
    split
    ·exact .inr rfl
    ·exact .inl ⟨_,rfl⟩
   ·rw [hb];exact .inr rfl
end Go.Proofs.YtpkmekdpmkfcdaaGreatDoor.Sc
namespace Go.Proofs.YtpkmekdpmkfcdaaGreatDoor.Sc
set_option linter.unusedVariables false
set_option linter.unusedSimpArgs false
open Go.Proofs.YtpkmekdpmkfcdaaGreatDoor.Pl Go.Proofs.YtpkmekdpmkfcdaaGreatDoor.Px
theorem join_app (s : UInt8) : ∀ (a b : List (List UInt8)),a ≠ [] → b ≠ [] → join s (a ++ b) = join s a ++ s :: join s b
 | [],_,h,_ => absurd rfl h
 | [x],b,_,hb => by
  cases b with
  | nil => exact absurd rfl hb
  | cons y r => rfl
 | x :: y :: a,b,_,hb => by
  rw [List.cons_append,List.cons_append,join,← List.cons_append,join_app s (y :: a) b (by simp) hb,join]
  simp
/-- changes' words, joined with ' , ' -/
theorem join_comma : ∀ ls : List (List (List UInt8)),(∀ a ∈ ls,a ≠ []) → Go.Lib.join (ls.map (join 32)) [32,44,32] = join 32 (comma ls)
 | [],_ => rfl
 | [a],_ => by simp [Go.Lib.join,comma,List.intercalate,List.intersperse]
 | a :: b :: r,h => by
  have ha := h a (by simp)
  have ih := join_comma (b :: r) (fun x hx => h x (by simp [hx]))
  have hc : comma (b :: r) ≠ [] := comma_ne (by simp) (fun x hx => h x (by simp [hx]))
  rw [comma,join_app 32 a _ ha (by simp)]
  rw [show ([44] :: comma (b :: r)) = [[44]] ++ comma (b :: r) from rfl,join_app 32 [[44]] _ (by simp) hc,← ih]
  simp [Go.Lib.join,join,List.intercalate,List.intersperse]
/-- a name and each letter's words, joined; a letter without words left out -/
def nonE (x : List UInt8) : Bool := !x.isEmpty
theorem join_e (s : UInt8) {ws : List (List UInt8)} (h : ∀ w ∈ ws,w ≠ []) : join s ws = [] ↔ ws = [] := by
 cases ws with
 | nil => simp [join]
 | cons a r =>
  have ha := h a (by simp)
  cases r with
  | nil => simp [join,ha]
  | cons b r => simp [join]
theorem join_flat : ∀ (n : List (List UInt8)) (ls : List (List (List UInt8))),n ≠ [] → (∀ a ∈ ls,∀ w ∈ a,w ≠ []) → join 32 (n ++ (ls.map (join 32)).filter nonE) = join 32 (n ++ ls.flatten)
 | n,[],_,_ => by simp
 | n,a :: r,hn,h => by
  have h2 : ∀ x ∈ r,∀ w ∈ x,w ≠ [] := fun x hx => h x (by simp [hx])
  by_cases ha : a = []
  ·subst ha
   have := join_flat n r hn h2
   simpa [join,nonE] using this
  ·have hj : join 32 a ≠ [] := fun e => ha ((join_e 32 (h a (by simp))).1 e)
   have h3 := join_flat (n ++ [join 32 a]) r (by simp) h2
   have h4 : nonE (join 32 a) = true := by unfold nonE;cases e : join 32 a with | nil => exact absurd e hj | cons => rfl
   rw [List.map_cons,List.filter_cons_of_pos h4,List.flatten_cons]
   rw [show n ++ join 32 a :: (r.map (join 32)).filter nonE = (n ++ [join 32 a]) ++ (r.map (join 32)).filter nonE by simp,h3]
   by_cases hr : r.flatten = []
   ·rw [hr,List.append_nil,List.append_nil,join_app 32 n _ hn (by simp),join_app 32 n a hn ha]
    rfl
   ·rw [join_app 32 (n ++ [join 32 a]) _ (by simp) hr,join_app 32 n _ hn (by simp),← List.append_assoc,join_app 32 (n ++ a) _ (by simp [hn]) hr,join_app 32 n a hn ha]
    rfl
end Go.Proofs.YtpkmekdpmkfcdaaGreatDoor.Sc
namespace Go.Proofs.YtpkmekdpmkfcdaaGreatDoor.Sc
set_option linter.unusedVariables false
set_option linter.unusedSimpArgs false
open Go.Lib Go.Proofs.YtpkmekdpmkfcdaaGreatDoor.Pl Go.Proofs.YtpkmekdpmkfcdaaGreatDoor.Px
def lc1 : Chg := ⟨1,1,1,[160,1],0,0,0,0⟩
def lc2 : Chg := ⟨4,1,0,[],4,0,167772160,8⟩
def lo1 : Opp := ⟨1,1,0,0,0,0,[],0,0,0,0,[lc1,lc2],[],[]⟩
def lo2 : Opp := ⟨2,0,0,0,0,0,[171],0,0,0,0,[],[],[]⟩
def lo3 : Opp := ⟨10,0,0,0,0,0,[],0,0,0,0,[],[(3,1),(5,2)],[]⟩
def lo4 : Opp := ⟨11,1,0,0,0,0,[],0,0,0,0,[],[],[false,true]⟩
def lops : List Opp := [lo1,lo2,lo3,lo4]
def ltxt : List UInt8 := [99,117,108,118,101,114,116,32,54,52,10,99,111,109,109,105,116,32,49,32,97,100,100,32,49,32,97,48,48,49,32,49,32,44,32,97,108,108,111,119,32,49,32,49,48,46,48,46,48,46,48,47,56,10,115,101,110,100,32,48,32,97,98,10,97,114,109,32,48,32,112,111,119,101,114,32,51,32,105,111,32,53,10,99,114,97,115,104,32,49,32,48,49,10]
theorem d_0 : decW 0 = [48] := by show decDigits 0 = _;rw [Lib.decDigits_one (i := 0) (by omega)];rfl
theorem d_1 : decW 1 = [49] := by show decDigits 1 = _;rw [Lib.decDigits_one (i := 1) (by omega)];rfl
theorem d_3 : decW 3 = [51] := by show decDigits 3 = _;rw [Lib.decDigits_one (i := 3) (by omega)];rfl
theorem d_5 : decW 5 = [53] := by show decDigits 5 = _;rw [Lib.decDigits_one (i := 5) (by omega)];rfl
theorem d_64 : decW 64 = [54,52] := by show decDigits 64 = _;rw [Lib.decDigits_two (i := 64) (by omega) (by omega)];rfl
theorem okP_l : okP 4 167772160 8 = true := by decide
theorem dgs_l : dgs 256 4 167772160 = [10,0,0,0] := by decide
theorem prA_l : prA 4 167772160 = [49,48,46,48,46,48,46,48] := by
 rw [prA_4 _ (by omega),dgs_l]
 simp only [List.map_cons,List.map_nil]
 rw [Lib.decDigits_two (i := 10) (by omega) (by omega),Lib.decDigits_one (i := 0) (by omega)]
 rfl
theorem prP_l : prP 4 167772160 8 = [49,48,46,48,46,48,46,48,47,56] := by
 rw [prP_of okP_l,prA_l,show ((8 : Int).toNat) = 8 from rfl,Lib.decDigits_one (i := 8) (by omega)]
 rfl
theorem pX_l : pX 4 0 167772160 8 = [49,48,46,48,46,48,46,48,47,56] := by
 rw [pX_of (by decide),show num 4 0 167772160 = 167772160 by decide,prP_l]
theorem chgT_l1 : chgT lc1 = .ok [[97,100,100],[49],[97,48,48,49],[49]] := by
 unfold chgT
 rw [if_neg (by decide),if_neg (by decide),if_neg (by decide),if_neg (by decide),if_pos (by decide),if_neg (by decide)]
 show Except.ok ([_,decW 1] ++ [_,decW 1] ++ []) = _
 rw [d_1];rfl
theorem chgT_l2 : chgT lc2 = .ok [[97,108,108,111,119],[49],[49,48,46,48,46,48,46,48,47,56]] := by
 unfold chgT
 rw [if_neg (by decide),if_neg (by decide),if_neg (by decide),if_neg (by decide),if_neg (by decide),if_pos (by decide)]
 show Except.ok ([_,decW 1] ++ [] ++ [pX 4 0 167772160 8]) = _
 rw [d_1,pX_l];rfl
theorem chgsT_l : chgsT [lc1,lc2] = .ok [[97,100,100],[49],[97,48,48,49],[49],[44],[97,108,108,111,119],[49],[49,48,46,48,46,48,46,48,47,56]] := by
 have e : mapE chgT [lc1,lc2] = .ok [[[97,100,100],[49],[97,48,48,49],[49]],[[97,108,108,111,119],[49],[49,48,46,48,46,48,46,48,47,56]]] := by
  simp only [mapE,chgT_l1,chgT_l2]
 unfold chgsT
 rw [e]
 rfl
theorem fltsT_l : fltsT [(3,1),(5,2)] = .ok [pow,[51],inou,[53]] := by
 have e1 : fltT (3,1) = .ok [pow,[51]] := by unfold fltT;rw [if_neg (by decide),if_neg (by decide),if_pos rfl];show Except.ok [pow,decW 3] = _;rw [d_3]
 have e2 : fltT (5,2) = .ok [inou,[53]] := by unfold fltT;rw [if_neg (by decide),if_neg (by decide),if_neg (by decide)];show Except.ok [inou,decW 5] = _;rw [d_5]
 have e : mapE fltT [(3,1),(5,2)] = .ok [[pow,[51]],[inou,[53]]] := by simp only [mapE,e1,e2]
 unfold fltsT
 rw [e]
 rfl
theorem fld_num (o : Opp) (c : UInt8) (h : c = 65 ∨ c = 75) (n : Int) (hn : getN o c = n) (hk : numOk n = true) : fldT o c = .ok [decW n] := by
 unfold fldT
 rcases h with rfl | rfl <;> rw [if_neg (by decide),if_neg (by decide),if_neg (by decide),if_neg (by decide),if_neg (by decide),hn,if_pos hk]
theorem stepT_l1 : stepT lo1 = .ok [[99,111,109,109,105,116],[49],[97,100,100],[49],[97,48,48,49],[49],[44],[97,108,108,111,119],[49],[49,48,46,48,46,48,46,48,47,56]] := by
 have f1 : fldT lo1 65 = .ok [[49]] := by rw [fld_num lo1 65 (.inl rfl) 1 rfl (by decide),d_1]
 have f2 : fldT lo1 67 = .ok [[97,100,100],[49],[97,48,48,49],[49],[44],[97,108,108,111,119],[49],[49,48,46,48,46,48,46,48,47,56]] := by
  unfold fldT;rw [if_neg (by decide),if_neg (by decide),if_neg (by decide),if_neg (by decide),if_pos rfl];exact chgsT_l
 have e : mapE (fldT lo1) (stepForm lo1.kind.toNat) = .ok [[[49]],[[97,100,100],[49],[97,48,48,49],[49],[44],[97,108,108,111,119],[49],[49,48,46,48,46,48,46,48,47,56]]] := by
  show mapE (fldT lo1) [65,67] = _
  simp only [mapE,f1,f2]
 unfold stepT
 rw [if_neg (by decide),if_neg (by decide),e]
 rfl
theorem stepT_l2 : stepT lo2 = .ok [[115,101,110,100],[48],[97,98]] := by
 have f1 : fldT lo2 65 = .ok [[48]] := by rw [fld_num lo2 65 (.inl rfl) 0 rfl (by decide),d_0]
 have f2 : fldT lo2 72 = .ok [[97,98]] := by unfold fldT;rw [if_pos rfl];rfl
 have e : mapE (fldT lo2) (stepForm lo2.kind.toNat) = .ok [[[48]],[[97,98]]] := by
  show mapE (fldT lo2) [65,72] = _
  simp only [mapE,f1,f2]
 unfold stepT
 rw [if_neg (by decide),if_neg (by decide),e]
 rfl
theorem stepT_l3 : stepT lo3 = .ok [[97,114,109],[48],pow,[51],inou,[53]] := by
 have f1 : fldT lo3 65 = .ok [[48]] := by rw [fld_num lo3 65 (.inl rfl) 0 rfl (by decide),d_0]
 have f2 : fldT lo3 70 = .ok [pow,[51],inou,[53]] := by unfold fldT;rw [if_neg (by decide),if_neg (by decide),if_neg (by decide),if_pos rfl];exact fltsT_l
 have e : mapE (fldT lo3) (stepForm lo3.kind.toNat) = .ok [[[48]],[pow,[51],inou,[53]]] := by
  show mapE (fldT lo3) [65,70] = _
  simp only [mapE,f1,f2]
 unfold stepT
 rw [if_neg (by decide),if_neg (by decide),e]
 rfl
theorem stepT_l4 : stepT lo4 = .ok [[99,114,97,115,104],[49],[48,49]] := by
 have f1 : fldT lo4 65 = .ok [[49]] := by rw [fld_num lo4 65 (.inl rfl) 1 rfl (by decide),d_1]
 have f2 : fldT lo4 66 = .ok [[48,49]] := by unfold fldT;rw [if_neg (by decide),if_neg (by decide),if_pos rfl];rfl
 have e : mapE (fldT lo4) (stepForm lo4.kind.toNat) = .ok [[[49]],[[48,49]]] := by
  show mapE (fldT lo4) [65,66] = _
  simp only [mapE,f1,f2]
 unfold stepT
 rw [if_neg (by decide),if_neg (by decide),e]
 rfl
theorem printS_l : printS 64 lops = .ok ltxt := by
 have e : mapE stepT lops = .ok [[[99,111,109,109,105,116],[49],[97,100,100],[49],[97,48,48,49],[49],[44],[97,108,108,111,119],[49],[49,48,46,48,46,48,46,48,47,56]],[[115,101,110,100],[48],[97,98]],[[97,114,109],[48],pow,[51],inou,[53]],[[99,114,97,115,104],[49],[48,49]]] := by
  unfold lops
  simp only [mapE,stepT_l1,stepT_l2,stepT_l3,stepT_l4]
 unfold printS
 rw [if_neg (by decide),if_neg (by decide),e,d_64]
 rfl
theorem lops_in : ∀ o ∈ lops,OppIn o := by
 intro o ho
 simp only [lops,List.mem_cons,List.not_mem_nil,or_false] at ho
 rcases ho with rfl | rfl | rfl | rfl
 ·refine ⟨by decide,fun c hc => ?_⟩
  simp only [lo1,List.mem_cons,List.not_mem_nil,or_false] at hc
  rcases hc with rfl | rfl <;> exact ⟨by decide,by decide⟩
 ·exact ⟨by decide,fun c hc => by simp [lo2] at hc⟩
 ·exact ⟨by decide,fun c hc => by simp [lo3] at hc⟩
 ·exact ⟨by decide,fun c hc => by simp [lo4] at hc⟩
theorem parseS_l : parseS ltxt = .ok (64,lops) := (print_back lops_in printS_l).1
end Go.Proofs.YtpkmekdpmkfcdaaGreatDoor.Sc
