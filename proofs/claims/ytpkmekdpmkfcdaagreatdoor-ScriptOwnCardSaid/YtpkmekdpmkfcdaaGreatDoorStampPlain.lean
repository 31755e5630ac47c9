/- Plain lemmas on decimal digits and on the text of a stamp: no program in sight. -/
import Derived.Lib.AtoiAllCases
import Derived.Lib.ItoaNum
namespace Go.Proofs.YtpkmekdpmkfcdaaGreatDoor.Pl
open Go.Lib
def isDig (c : UInt8) : Bool := decide (48 ≤ c.toNat ∧ c.toNat ≤ 57)
/-- the number that digits spell, behind acc -/
def valA (acc : Nat) (l : List UInt8) : Nat := l.foldl (fun a c => a * 10 + (c.toNat - 48)) acc
theorem valA_nil (acc : Nat) : valA acc [] = acc := rfl
theorem valA_cons (acc : Nat) (c : UInt8) (l : List UInt8) : valA acc (c :: l) = valA (acc * 10 + (c.toNat - 48)) l := by simp only [valA,List.foldl_cons]
theorem valA_append (acc : Nat) (a b : List UInt8) : valA acc (a ++ b) = valA (valA acc a) b := by simp [valA]
theorem valA_snoc (acc : Nat) (a : List UInt8) (c : UInt8) : valA acc (a ++ [c]) = valA acc a * 10 + (c.toNat - 48) := by simp [valA]
theorem valA_mono (l : List UInt8) : ∀ acc,acc ≤ valA acc l := by
 induction l with
 | nil => intro acc;exact Nat.le_refl _
 | cons c l ih =>
  intro acc
  rw [valA_cons]
  have := ih (acc * 10 + (c.toNat - 48))
  omega
theorem toNat_digit (k : Nat) (h : k < 10) : (UInt8.ofNat (48 + k)).toNat = 48 + k := by
 simp;omega
theorem isDig_digit (k : Nat) (h : k < 10) : isDig (UInt8.ofNat (48 + k)) = true := by
 unfold isDig;rw [toNat_digit k h];simp;omega
theorem decDigits_dig (u : Nat) : ∀ c ∈ decDigits u,isDig c = true := by
 induction u using Nat.strongRecOn with
 | ind u ih =>
  intro c hc
  rw [decDigits] at hc
  split at hc
  ·rename_i h
   rw [List.mem_singleton] at hc;subst hc;exact isDig_digit u h
  ·rename_i h
   rw [List.mem_append] at hc
   rcases hc with hc | hc
   ·exact ih (u / 10) (by omega) c hc
   ·rw [List.mem_singleton] at hc;subst hc;exact isDig_digit _ (by omega)
theorem decDigits_val (u : Nat) : valA 0 (decDigits u) = u := by
 induction u using Nat.strongRecOn with
 | ind u ih =>
  rw [decDigits]
  split
  ·rename_i h
   rw [valA_cons,valA_nil,toNat_digit u h];omega
  ·rename_i h
   rw [valA_snoc,ih (u / 10) (by omega),toNat_digit _ (by omega)];omega
theorem decDigits_ne (u : Nat) : decDigits u ≠ [] := by
 rw [decDigits];split <;> simp
/-- no zero stands ahead of a number of two digits or more -/
theorem decDigits_head (u : Nat) (h : 10 ≤ u) : ∃ c r,decDigits u = c :: r ∧ c ≠ 48 := by
 induction u using Nat.strongRecOn with
 | ind u ih =>
  rw [decDigits,dif_neg (by omega)]
  by_cases h2 : u / 10 < 10
  ·rw [decDigits,dif_pos h2]
   refine ⟨_,_,rfl,?_⟩
   intro e
   have := congrArg UInt8.toNat e
   rw [toNat_digit _ h2] at this
   simp at this;omega
  ·obtain ⟨c,r,e,hc⟩ := ih (u / 10) (by omega) (by omega)
   rw [e];exact ⟨c,r ++ _,rfl,hc⟩
theorem decDigits_len_le (k : Nat) : ∀ u,u < 10 ^ k → 1 ≤ k → (decDigits u).length ≤ k := by
 induction k with
 | zero => intro u _ h;omega
 | succ k ih =>
  intro u hu _
  rw [decDigits]
  split
  ·simp
  ·rename_i h
   rcases Nat.eq_zero_or_pos k with hk | hk
   ·subst hk;simp at hu;omega
   ·have := ih (u / 10) (by rw [Nat.pow_succ] at hu;omega) hk
    simp;omega
def padTo (k : Nat) (l : List UInt8) : List UInt8 := List.replicate (k - l.length) 48 ++ l
theorem valA_zeros (k acc : Nat) (l : List UInt8) (h : acc = 0) : valA acc (List.replicate k 48 ++ l) = valA 0 l := by
 subst h
 induction k with
 | zero => rfl
 | succ k ih => rw [List.replicate_succ,List.cons_append,valA_cons];exact ih
theorem padTo_val (k u : Nat) : valA 0 (padTo k (decDigits u)) = u := by
 unfold padTo;rw [valA_zeros _ _ _ rfl,decDigits_val]
theorem padTo_dig (k u : Nat) : ∀ c ∈ padTo k (decDigits u),isDig c = true := by
 intro c hc
 unfold padTo at hc
 rw [List.mem_append] at hc
 rcases hc with hc | hc
 ·rw [List.mem_replicate] at hc;rw [hc.2];rfl
 ·exact decDigits_dig u c hc
theorem padTo_len (k : Nat) (l : List UInt8) (h : l.length ≤ k) : (padTo k l).length = k := by
 unfold padTo;simp;omega
/-- what digits that spell a small number parse as -/
theorem parse_val (l : List UInt8) : ∀ acc,(∀ c ∈ l,isDig c = true) → valA acc l < 18446744073709551616 → parseUint10 acc l = .ok (valA acc l) := by
 induction l with
 | nil => intro acc _ _;rfl
 | cons c l ih =>
  intro acc hd hv
  rw [valA_cons] at hv ⊢
  have hc := hd c (by simp)
  unfold isDig at hc
  simp at hc
  have hm := valA_mono l (acc * 10 + (c.toNat - 48))
  rw [parseUint10,if_pos hc,if_neg (by omega),if_neg (by omega)]
  exact ih _ (fun x hx => hd x (by simp [hx])) hv
theorem dig_not_sign {c : UInt8} (h : isDig c = true) : c.toNat ≠ 43 ∧ c.toNat ≠ 45 := by
 unfold isDig at h;simp at h;omega
theorem atoi_digits (l : List UInt8) (hne : l ≠ []) (hd : ∀ c ∈ l,isDig c = true) (hv : valA 0 l < 9223372036854775808) : atoiAll l = .ok (valA 0 l : Int) := by
 match l,hne with
 | c :: r,_ =>
  have hs := dig_not_sign (hd c (by simp))
  rw [atoiAll_plain c r hs.1 hs.2,parseMag,if_neg (by simp),parse_val _ 0 hd (by omega)]
  simp only [signless]
  rw [if_neg (by omega)]
def vld (s n : Int) : Bool := decide (0 ≤ s) && (decide (0 ≤ n) && decide (n ≤ 999999999))
theorem vld_iff (s n : Int) : vld s n = true ↔ 0 ≤ s ∧ 0 ≤ n ∧ n ≤ 999999999 := by simp [vld]
/-- the text of a stamp -/
def prt (s n : Int) : List UInt8 := if vld s n = true then decDigits s.toNat ++ 46 :: padTo 9 (decDigits n.toNat) else []
theorem prt_of (s n : Int) (h : vld s n = true) : prt s n = decDigits s.toNat ++ 46 :: padTo 9 (decDigits n.toNat) := by unfold prt;rw [if_pos h]
theorem prt_not (s n : Int) (h : vld s n = false) : prt s n = [] := by unfold prt;rw [if_neg (by simp [h])]
/-- two texts of digits round one point: cut at the same place -/
theorem cut_unique {a b a' b' : List UInt8} (ha : ∀ c ∈ a,isDig c = true) (ha' : ∀ c ∈ a',isDig c = true)
  (h : a ++ 46 :: b = a' ++ 46 :: b') : a = a' ∧ b = b' := by
 induction a generalizing a' with
 | nil =>
  cases a' with
  | nil => simp at h;exact ⟨rfl,h⟩
  | cons c r =>
   simp at h
   have := ha' c (by simp)
   rw [← h.1] at this;exact absurd this (by decide)
 | cons c r ih =>
  cases a' with
  | nil =>
   simp at h
   have := ha c (by simp)
   rw [h.1] at this;exact absurd this (by decide)
  | cons c' r' =>
   simp at h
   obtain ⟨e,h⟩ := h
   obtain ⟨e1,e2⟩ := ih (fun x hx => ha x (by simp [hx])) (fun x hx => ha' x (by simp [hx])) h
   exact ⟨by rw [e,e1],e2⟩
theorem prt_inj {s n s' n' : Int} (h : vld s n = true) (h' : vld s' n' = true) (e : prt s n = prt s' n') : s = s' ∧ n = n' := by
 rw [prt_of _ _ h,prt_of _ _ h'] at e
 obtain ⟨e1,e2⟩ := cut_unique (decDigits_dig _) (decDigits_dig _) e
 have f1 := congrArg (valA 0) e1
 have f2 := congrArg (valA 0) e2
 rw [decDigits_val,decDigits_val] at f1
 rw [padTo_val,padTo_val] at f2
 rw [vld_iff] at h h'
 omega
open Classical in
/-- the stamp that a text says, if it says one -/
noncomputable def prs (t : List UInt8) : Option (Int × Int) :=
 if h : ∃ p : Int × Int,vld p.1 p.2 = true ∧ p.1 ≤ 9223372036854775807 ∧ prt p.1 p.2 = t then some h.choose else none
theorem prs_some {t : List UInt8} {s n : Int} (h : prs t = some (s,n)) : vld s n = true ∧ s ≤ 9223372036854775807 ∧ prt s n = t := by
 unfold prs at h
 split at h
 ·rename_i hx
  have := hx.choose_spec
  injection h with h
  rw [h] at this
  exact this
 ·cases h
theorem prs_prt {s n : Int} (h : vld s n = true) (hs : s ≤ 9223372036854775807) : prs (prt s n) = some (s,n) := by
 unfold prs
 split
 ·rename_i hx
  have hc := hx.choose_spec
  have := prt_inj hc.1 h hc.2.2
  rw [show hx.choose = (s,n) from Prod.ext this.1 this.2]
 ·rename_i hx
  exact absurd ⟨(s,n),h,hs,rfl⟩ hx
theorem prs_none {t : List UInt8} (h : ∀ s n,vld s n = true → s ≤ 9223372036854775807 → prt s n = t → False) : prs t = none := by
 cases e : prs t with
 | none => rfl
 | some p => obtain ⟨a,b,c⟩ := prs_some (s := p.1) (n := p.2) e;exact (h _ _ a b c).elim
/-- what a stamp's text looks like -/
theorem prt_shape {s n : Int} (h : vld s n = true) (hs : s ≤ 9223372036854775807) :
  ∃ a b : List UInt8,prt s n = a ++ 46 :: b ∧ (∀ c ∈ a,isDig c = true) ∧ (∀ c ∈ b,isDig c = true) ∧ a ≠ [] ∧ b.length = 9 ∧ a.length ≤ 19 ∧
   (valA 0 a : Int) = s ∧ (valA 0 b : Int) = n := by
 have hv := (vld_iff s n).1 h
 refine ⟨_,_,prt_of s n h,decDigits_dig _,padTo_dig _ _,decDigits_ne _,?_,?_,?_,?_⟩
 ·exact padTo_len _ _ (decDigits_len_le 9 _ (by omega) (by omega))
 ·exact decDigits_len_le 19 _ (by omega) (by omega)
 ·rw [decDigits_val];omega
 ·rw [padTo_val];omega
/-- a text is no stamp's: a byte that is neither a digit nor the first point -/
theorem prs_bad {t : List UInt8} {p : Nat} {c : UInt8} (hc : t[p]? = some c) (hd : isDig c = false)
  (h46 : c = 46 → ∃ q,q < p ∧ t[q]? = some 46) : prs t = none := by
 refine prs_none fun s n hv hs e => ?_
 obtain ⟨a,b,e2,ha,hb,_⟩ := prt_shape hv hs
 rw [e] at e2
 have key : ∀ q d,t[q]? = some d → isDig d = false → q = a.length ∧ d = 46 := by
  intro q d hq hqd
  rw [e2,List.getElem?_append] at hq
  split at hq
  ·rw [List.getElem?_eq_some_iff] at hq
   obtain ⟨hlt,he⟩ := hq
   have := ha d (by rw [← he];exact List.getElem_mem hlt)
   rw [this] at hqd;cases hqd
  ·rename_i hge
   rcases Nat.lt_or_ge a.length q with hlt | hge2
   ·obtain ⟨m,hm⟩ : ∃ m,q - a.length = m + 1 := ⟨q - a.length - 1,by omega⟩
    rw [hm,List.getElem?_cons_succ] at hq
    have := hb d (List.mem_of_getElem? hq)
    rw [this] at hqd;cases hqd
   ·obtain rfl : q = a.length := by omega
    simp at hq
    exact ⟨rfl,hq.symm⟩
 obtain ⟨k1,k2⟩ := key p c hc hd
 obtain ⟨q,hq1,hq2⟩ := h46 k2
 obtain ⟨k3,_⟩ := key q 46 hq2 (by decide)
 omega
/-- .. no point at all -/
theorem prs_nopoint {t : List UInt8} (h : ∀ c ∈ t,c ≠ 46) : prs t = none := by
 refine prs_none fun s n hv hs e => ?_
 obtain ⟨a,b,e2,_⟩ := prt_shape hv hs
 rw [e] at e2
 exact h 46 (by rw [e2];simp) rfl
/-- .. cut at its point: the two numbers decide -/
theorem prs_cut {a b : List UInt8} (ha : ∀ c ∈ a,isDig c = true) {s n : Int} (hv : vld s n = true) (hs : s ≤ 9223372036854775807)
  (e : prt s n = a ++ 46 :: b) : atoiAll a = .ok s ∧ atoiAll b = .ok n := by
 obtain ⟨a',b',e2,ha',hb',hne,hl,hl2,hva,hvb⟩ := prt_shape hv hs
 rw [e] at e2
 obtain ⟨rfl,rfl⟩ := cut_unique ha ha' e2
 have hx := (vld_iff s n).1 hv
 refine ⟨?_,?_⟩
 ·rw [atoi_digits a hne ha (by omega),hva]
 ·rw [atoi_digits b (by intro h;subst h;simp at hl) hb' (by omega),hvb]
/-- both numbers are read, and the text of the two is the text -/
theorem prs_yes {t : List UInt8} {s n : Int} (hs : s ≤ 9223372036854775807) (hne : t ≠ []) (e : prt s n = t) : prs t = some (s,n) := by
 have hv : vld s n = true := by
  cases h : vld s n with
  | true => rfl
  | false => rw [prt_not _ _ h] at e;exact absurd e.symm hne
 rw [← e];exact prs_prt hv hs
/-- .. it is not -/
theorem prs_no {a b : List UInt8} {s n : Int} (ha : ∀ c ∈ a,isDig c = true) (h1 : atoiAll a = .ok s) (h2 : atoiAll b = .ok n) (e : prt s n ≠ a ++ 46 :: b) : prs (a ++ 46 :: b) = none := by
 refine prs_none fun s' n' hv hs e' => ?_
 obtain ⟨f1,f2⟩ := prs_cut ha hv hs e'
 rw [h1] at f1;rw [h2] at f2
 injection f1 with f1;injection f2 with f2
 subst f1;subst f2
 exact e e'
theorem prs_err1 {a b : List UInt8} (ha : ∀ c ∈ a,isDig c = true) (h1 : ∀ s,atoiAll a ≠ .ok s) : prs (a ++ 46 :: b) = none :=
 prs_none fun s _ hv hs e => h1 s (prs_cut ha hv hs e).1
theorem prs_err2 {a b : List UInt8} (ha : ∀ c ∈ a,isDig c = true) (h2 : ∀ s,atoiAll b ≠ .ok s) : prs (a ++ 46 :: b) = none :=
 prs_none fun _ n hv hs e => h2 n (prs_cut ha hv hs e).2
/-- the digits that are still to come (n is left, at least k of them) -/
def dg (n k : Nat) : List UInt8 := if _h : n = 0 ∧ k = 0 then [] else dg (n / 10) (k - 1) ++ [UInt8.ofNat (48 + n % 10)]
termination_by n + k
decreasing_by omega
theorem dg_zero : dg 0 0 = [] := by rw [dg];simp
theorem dg_step (n k : Nat) (h : ¬ (n = 0 ∧ k = 0)) : dg n k = dg (n / 10) (k - 1) ++ [UInt8.ofNat (48 + n % 10)] := by rw [dg,dif_neg h]
theorem dg_zeros (k : Nat) : dg 0 k = List.replicate k 48 := by
 induction k with
 | zero => exact dg_zero
 | succ k ih =>
  rw [dg_step _ _ (by omega),show (0 : Nat) / 10 = 0 from rfl,show k + 1 - 1 = k from rfl,ih]
  rw [show ([UInt8.ofNat (48 + 0 % 10)] : List UInt8) = List.replicate 1 48 from rfl,List.replicate_append_replicate]
theorem dg_pad (n : Nat) : ∀ k,(1 ≤ k ∨ 1 ≤ n) → dg n k = padTo k (decDigits n) := by
 induction n using Nat.strongRecOn with
 | ind n ih =>
  intro k hk
  rw [dg_step n k (by omega),decDigits]
  split
  ·rename_i h
   rw [show n / 10 = 0 by omega,dg_zeros,show n % 10 = n by omega,padTo]
   simp
  ·rename_i h
   rw [ih (n / 10) (by omega) (k - 1) (by omega)]
   unfold padTo
   simp only [List.length_append,List.length_cons,List.length_nil,List.append_assoc]
   rw [show k - 1 - (decDigits (n / 10)).length = k - ((decDigits (n / 10)).length + (0 + 1)) by omega]
end Go.Proofs.YtpkmekdpmkfcdaaGreatDoor.Pl
