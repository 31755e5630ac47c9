/- Contracts of the script's small functions: a number, a digit, a name's row, the wanted words. Contracts: bytes out of hexadecimal digits, bits out of their word. Contracts: bits out of their word; the words that are wanted; where a letter's number stands. Contract: pairs of words as faults; lists of words as arguments, cut. -/
import Derived.Test.YtpkmekdpmkfcdaaGreatDoorMH
import Derived.Test.YtpkmekdpmkfcdaaGreatDoorScM
import Derived.Test.YtpkmekdpmkfcdaaGreatDoorPrefP
import Derived.Test.YtpkmekdpmkfcdaaGreatDoorStampH
namespace Go.Proofs.YtpkmekdpmkfcdaaGreatDoor.Sr
set_option linter.unusedVariables false
set_option linter.unusedSimpArgs false
open Go.RowKit Go.Proofs.YtpkmekdpmkfcdaaGreatDoor.Wd Go.Proofs.YtpkmekdpmkfcdaaGreatDoor.Px Go.Proofs.YtpkmekdpmkfcdaaGreatDoor.By Go.Proofs.YtpkmekdpmkfcdaaGreatDoor.En Go.Proofs.YtpkmekdpmkfcdaaGreatDoor.Pl Go.Proofs.YtpkmekdpmkfcdaaGreatDoor.Pf Go.Proofs.YtpkmekdpmkfcdaaGreatDoor.Sc
def v32 (l : List UInt8) : Option Nat := match Lib.parseUintB 32 l with
 | .ok u => some u
 | _ => none
theorem parse32_any (s : ByteArray) (hs : s.size ≤ 140737488355328) (w : World) (hE : Env w) :
  Calls Tryz.prog 163 #[.string s,.int .i64 10,.int .i64 32] w fun e w' => pu (v32 s.data.toList) e ∧ Below w.heap.size w w' := by
 unfold v32
 cases h : Lib.parseUintB 32 s.data.toList
 ·rename_i u
  refine (Tryz.strconv_ParseUint_10_at32_ok s (by omega) u h w).mono ?_
  rintro e w' ⟨rfl,hw⟩
  refine ⟨rfl,?_⟩
  rcases hw with rfl | rfl
  ·exact Below.refl _ _
  ·exact Lib.bytesWorld_below _ _ _
 ·obtain ⟨tp,p,hv⟩ := hE.syn
  refine Calls.mono (P := Tryz.prog) (f := 163) (Go.Proofs.Any.strconv_ParseUint_10_at32_syntax_var Tryz.laysPu14 s (by omega) h tp p w hv) ?_
  rintro e w' ⟨N,rfl,-,-,hb⟩
  exact ⟨⟨_,_,rfl⟩,hb⟩
 ·obtain ⟨tp,p,hv⟩ := hE.ran
  refine Calls.mono (P := Tryz.prog) (f := 163) (Go.Proofs.Any.strconv_ParseUint_10_at32_range_var Tryz.laysPu14 s (by omega) h tp p w hv) ?_
  rintro e w' ⟨N,rfl,-,-,hb⟩
  exact ⟨⟨_,_,rfl⟩,hb⟩
theorem uintM_ok (M : Nat) : ∀ (l : List UInt8) (acc u : Nat),Lib.parseUintM M acc l = .ok u → (∀ c ∈ l,isDig c = true) ∧ valA acc l = u
 | [],acc,u,h => by
  rw [Lib.parseUintM] at h
  injection h with h
  exact ⟨by simp,h⟩
 | c :: r,acc,u,h => by
  rw [Lib.parseUintM] at h
  split at h
  ·rename_i hd
   split at h
   ·cases h
   ·split at h
    ·cases h
    ·obtain ⟨h1,h2⟩ := uintM_ok M r _ u h
     refine ⟨fun x hx => ?_,h2⟩
     rcases List.mem_cons.1 hx with rfl | hx
     ·exact decide_eq_true hd
     ·exact h1 x hx
  ·cases h
theorem v32_some {l : List UInt8} {u : Nat} (h : v32 l = some u) : l ≠ [] ∧ (∀ c ∈ l,isDig c = true) ∧ valA 0 l = u ∧ u ≤ 4294967295 := by
 unfold v32 at h
 split at h
 ·rename_i x hx
  injection h with h
  subst h
  unfold Lib.parseUintB at hx
  split at hx
  ·cases hx
  ·rename_i hne
   obtain ⟨h1,h2⟩ := uintM_ok _ l 0 x hx
   have := Lib.parseUintM_le _ l 0 x (by omega) hx
   exact ⟨hne,h1,h2,by omega⟩
 ·cases h
theorem uintM_dig2 (M : Nat) (hM : M ≤ 4294967295) : ∀ (l : List UInt8) (a : Nat),(∀ c ∈ l,isDig c = true) → valA a l ≤ M → Lib.parseUintM M a l = .ok (valA a l)
 | [],a,_,_ => rfl
 | c :: r,a,h,hv => by
  have hd := h c (by simp)
  simp only [isDig,decide_eq_true_eq] at hd
  have hv2 : valA (a * 10 + (c.toNat - 48)) r ≤ M := hv
  have := valA_ge r (a * 10 + (c.toNat - 48))
  rw [Lib.parseUintM,if_pos ⟨by omega,by omega⟩,if_neg (by omega),if_neg (by omega),uintM_dig2 M hM r _ (fun x hx => h x (by simp [hx])) hv2]
  rfl
theorem v32_none {l : List UInt8} (h : v32 l = none) : numW l = none := by
 unfold numW
 rw [if_neg]
 rintro ⟨h1,h2,-,h4⟩
 unfold v32 Lib.parseUintB at h
 rw [if_neg h1,uintM_dig2 (2 ^ 32 - 1) (by decide) l 0 (fun c hc => List.all_eq_true.1 h2 c hc) (by simpa using h4)] at h
 cases h
theorem v32_yes {l : List UInt8} {u : Nat} (h : v32 l = some u) (h0 : ¬ (1 < l.length ∧ l.head? = some 48)) : numW l = some u := by
 obtain ⟨h1,h2,h3,h4⟩ := v32_some h
 unfold numW
 rw [if_pos ⟨h1,List.all_eq_true.2 h2,h0,by omega⟩,h3]
theorem numW_zero {l : List UInt8} (h1 : 1 < l.length) (h2 : l.head? = some 48) : numW l = none := by
 unfold numW
 rw [if_neg]
 rintro ⟨-,-,h3,-⟩
 exact h3 ⟨h1,h2⟩
def ofN : Option Nat → Value
 | some n => .tuple #[.int .i64 (n : Int),.int .i64 0]
 | none => .tuple #[.int .i64 0,.int .i64 223]
theorem parse32_some {x : List UInt8} {u : Nat} (h : Hid (v32 x = some u)) (hs : x.length ≤ 140737488355328) (w : World) (hE : Env w) :
  Calls Tryz.prog 163 #[.string ⟨x.toArray⟩,.int .i64 10,.int .i64 32] w fun e w' => e = .returned (.tuple #[.int .u64 (u : Int),.nilIface]) ∧ Below w.heap.size w w' := by
 have := parse32_any ⟨x.toArray⟩ hs w hE
 rw [show (⟨x.toArray⟩ : ByteArray).data.toList = x from rfl,h.out] at this
 exact this
theorem parse32_none {x : List UInt8} (h : Hid (v32 x = none)) (hs : x.length ≤ 140737488355328) (w : World) (hE : Env w) :
  Calls Tryz.prog 163 #[.string ⟨x.toArray⟩,.int .i64 10,.int .i64 32] w fun e w' => (∃ (u : Int) (N : Nat),e = .returned (.tuple #[.int .u64 u,.iface 316 (.pointer (some ⟨N,0,none⟩))])) ∧ Below w.heap.size w w' := by
 have := parse32_any ⟨x.toArray⟩ hs w hE
 rw [show (⟨x.toArray⟩ : ByteArray).data.toList = x from rfl,h.out] at this
 exact this
theorem ret_v {a b : Value} (h : a = b) : Ending.returned a = .returned b := by rw [h]
set_option maxRecDepth 20000 in
theorem number_any (l : List UInt8) (hs : l.length ≤ 140737488355328) (w : World) (hE : Env w) :
  Calls Tryz.prog 77 #[.string ⟨l.toArray⟩] w fun e w' => e = .returned (ofN (numW l)) ∧ Below w.heap.size w w' := by
 obtain ⟨r,hr⟩ : ∃ r,ofN (numW l) = r := ⟨_,rfl⟩
 rw [hr]
 cases hv : v32 l with
 | none =>
  have hn := v32_none hv
  rw [hn] at hr
  subst hr
  have HV := Lib.hid hv
  clear hv hn
  go_enter Tryz.func77,Tryz.ntmps77
  go_wp2_with fail
  refine (parse32_none HV hs w hE).mono ?_
  rintro e w1 ⟨⟨u,N,rfl⟩,hb⟩
  go_wp2
  go_ret2
  exact ⟨rfl,hb⟩
 | some u =>
  obtain ⟨h1,h2,h3,h4⟩ := v32_some hv
  have hu : (u : Int) ≤ 4294967295 := by omega
  have hcv : IntKind.i64.wrap (u : Int) = (u : Int) := IntWalk.i64_in _ ⟨by omega,by omega⟩
  have HV := Lib.hid hv
  obtain ⟨s,hsz⟩ : ∃ s : ByteArray,s = ⟨l.toArray⟩ := ⟨_,rfl⟩
  have hss : s.size = l.length := by subst hsz;rfl
  have hpos : 0 < s.size := by have := List.length_pos_iff.2 h1;omega
  have h00 : l.head? = some (s[0]'hpos) := by subst hsz;cases l with
   | nil => exact absurd rfl h1
   | cons c r => rfl
  have hcall := parse32_some HV hs w hE
  rw [← hsz] at hcall ⊢
  by_cases hlen : 1 < s.size
  ·have i1 : (1 : Int) < (s.size : Int) := by omega
   by_cases hz : s[0]'hpos = 48
   ·have hn := numW_zero (l := l) (by omega) (by rw [h00,hz])
    rw [hn] at hr
    subst hr
    have ez : ((s[0]'hpos).toNat : Int) = 48 := by rw [hz];rfl
    clear h00 hsz h1 h2 h3 h4 hv hn hz
    go_enter Tryz.func77,Tryz.ntmps77
    go_wp2_with fail
    refine hcall.mono ?_
    rintro e w1 ⟨rfl,hb⟩
    clear hcall
    go_wp2
    go_ret2
    exact ⟨rfl,hb⟩
   ·have hn := v32_yes hv (by rintro ⟨-,h⟩;rw [h00] at h;injection h with h;exact hz h)
    rw [hn] at hr
    subst hr
    have ez : (((s[0]'hpos).toNat : Int) == 48) = false := by
     rw [beq_eq_false_iff_ne]
     intro h
     exact hz (UInt8.toNat_inj.1 (by show _ = 48;omega))
    clear h00 hsz h1 h2 h3 h4 hv hn hz
    go_enter Tryz.func77,Tryz.ntmps77
    go_wp2_with fail
    refine hcall.mono ?_
    rintro e w1 ⟨rfl,hb⟩
    clear hcall
    go_wp2
    go_ret2
    exact ⟨rfl,hb⟩
  ·have i1 : ¬ (1 : Int) < (s.size : Int) := by omega
   have hn := v32_yes hv (by rintro ⟨h,-⟩;omega)
   rw [hn] at hr
   subst hr
   clear h00 hsz h1 h2 h3 h4 hv hn
   go_enter Tryz.func77,Tryz.ntmps77
   go_wp2_with fail
   refine hcall.mono ?_
   rintro e w1 ⟨rfl,hb⟩
   clear hcall
   go_wp2
   go_ret2
   exact ⟨rfl,hb⟩
def dgV (c : UInt8) : Int := match hexD c with
 | some a => (a : Int)
 | none => -1
theorem digit_any (c : UInt8) (x : Int) (hc : (c.toNat : Int) = x) (w : World) : Calls Tryz.prog 225 #[.int .u8 x] w fun e w' => e = .returned (.int .i64 (dgV c)) ∧ w' = w := by
 have h255 := c.toNat_lt
 have hx0 : 0 ≤ x := by omega
 have hx9 : x ≤ 255 := by omega
 have k : x < 48 ∨ (48 ≤ x ∧ x ≤ 57) ∨ (57 < x ∧ x < 65) ∨ (65 ≤ x ∧ x ≤ 70) ∨ (70 < x ∧ x < 97) ∨ (97 ≤ x ∧ x ≤ 102) ∨ 102 < x := by omega
 obtain ⟨d,hd⟩ : ∃ d,dgV c = d := ⟨_,rfl⟩
 rw [hd]
 unfold dgV hexD at hd
 rcases k with k | ⟨k1,k2⟩ | ⟨k1,k2⟩ | ⟨k1,k2⟩ | ⟨k1,k2⟩ | ⟨k1,k2⟩ | k
 ·rw [if_neg (by omega),if_neg (by omega),if_neg (by omega)] at hd
  have e1 : ¬ 48 ≤ x := by omega
  have e2 : ¬ 97 ≤ x := by omega
  have e3 : ¬ 65 ≤ x := by omega
  subst hd
  clear hc h255 k
  go_enter Tryz.func225,Tryz.ntmps225
  go_wp2
  go_ret
  exact ⟨rfl,rfl⟩
 ·rw [if_pos (by omega)] at hd
  have hv : x - 48 = d := by rw [← hd];simp only;omega
  subst hv
  clear hd hc h255
  go_enter Tryz.func225,Tryz.ntmps225
  go_wp2
  go_ret
  exact ⟨rfl,rfl⟩
 ·rw [if_neg (by omega),if_neg (by omega),if_neg (by omega)] at hd
  have e0 : 48 ≤ x := by omega
  have e1 : ¬ x ≤ 57 := by omega
  have e2 : ¬ 97 ≤ x := by omega
  have e3 : ¬ 65 ≤ x := by omega
  subst hd
  clear hc h255 k1 k2
  go_enter Tryz.func225,Tryz.ntmps225
  go_wp2
  go_ret
  exact ⟨rfl,rfl⟩
 ·rw [if_neg (by omega),if_neg (by omega),if_pos (by omega)] at hd
  have hv : x - 65 + 10 = d := by rw [← hd];simp only;omega
  have e0 : 48 ≤ x := by omega
  have e1 : ¬ x ≤ 57 := by omega
  have e2 : ¬ 97 ≤ x := by omega
  subst hv
  clear hd hc h255
  go_enter Tryz.func225,Tryz.ntmps225
  go_wp2
  go_ret
  exact ⟨rfl,rfl⟩
 ·rw [if_neg (by omega),if_neg (by omega),if_neg (by omega)] at hd
  have e0 : 48 ≤ x := by omega
  have e1 : ¬ x ≤ 57 := by omega
  have e2 : ¬ 97 ≤ x := by omega
  have e3 : 65 ≤ x := by omega
  have e4 : ¬ x ≤ 70 := by omega
  subst hd
  clear hc h255 k1 k2
  go_enter Tryz.func225,Tryz.ntmps225
  go_wp2
  go_ret
  exact ⟨rfl,rfl⟩
 ·rw [if_neg (by omega),if_pos (by omega)] at hd
  have hv : x - 97 + 10 = d := by rw [← hd];simp only;omega
  have e0 : 48 ≤ x := by omega
  have e1 : ¬ x ≤ 57 := by omega
  subst hv
  clear hd hc h255
  go_enter Tryz.func225,Tryz.ntmps225
  go_wp2
  go_ret
  exact ⟨rfl,rfl⟩
 ·rw [if_neg (by omega),if_neg (by omega),if_neg (by omega)] at hd
  have e0 : 48 ≤ x := by omega
  have e1 : ¬ x ≤ 57 := by omega
  have e2 : 97 ≤ x := by omega
  have e3 : ¬ x ≤ 102 := by omega
  have e4 : 65 ≤ x := by omega
  have e5 : ¬ x ≤ 70 := by omega
  subst hd
  clear hc h255 k
  go_enter Tryz.func225,Tryz.ntmps225
  go_wp2
  go_ret
  exact ⟨rfl,rfl⟩
theorem named_drop {names : List (List UInt8)} {k : Nat} {x : List UInt8} (t : List UInt8) (h : names[k]? = some x) : named (names.drop k) t = if x = t then 1 else if named (names.drop (k + 1)) t = 0 then 0 else named (names.drop (k + 1)) t + 1 := by
 obtain ⟨hk,rfl⟩ := List.getElem?_eq_some_iff.1 h
 rw [List.drop_eq_getElem_cons hk,named]
set_option maxRecDepth 20000 in
theorem named_any (g N : Nat) (names : List (List UInt8)) (t : List UInt8) (w : World) (hN : Hid (names.length = N)) (hN2 : N ≤ 100) (hg : g < w.heap.size)
  (hc : ∀ (i : Nat) x,names[i]? = some x → w.cell? ⟨g,i * 2,none⟩ = some (.string ⟨x.toArray⟩) ∧ ∃ v,w.cell? ⟨g,i * 2 + 1,none⟩ = some (.string v)) :
  Calls Tryz.prog 78 #[.slice (some ⟨g,0,none⟩) N N,.string ⟨t.toArray⟩] w fun e w' => e = .returned (.int .i64 (named names t : Nat)) ∧ Below w.heap.size w w' := by
 obtain ⟨r,hr⟩ : ∃ r,named names t = r := ⟨_,rfl⟩
 rw [hr]
 have HR := Lib.hid hr
 clear hr
 go_enter Tryz.func78,Tryz.ntmps78
 go_wp2
 go_loopw [9] (fun i wr => ∃ k : Nat,k ≤ N ∧ i = .int .i64 (k : Int) ∧ Hid (r = if named (names.drop k) t = 0 then 0 else named (names.drop k) t + k) ∧ Below w.heap.size w wr) (fun i _ => N - (intOf i).toNat)
 case atStart => exact ⟨0,Nat.zero_le _,rfl,Lib.hid (by rw [← HR.out,List.drop_zero];split <;> omega),Below.refl _ _⟩
 case round =>
  obtain ⟨k,hk,rfl,HK,hb⟩ := hrel
  by_cases hlt : k < N
  ·have i1 : (k : Int) < (N : Int) := by omega
   obtain ⟨x,hx⟩ : ∃ x,names[k]? = some x := ⟨_,List.getElem?_eq_getElem (by rw [hN.out];exact hlt)⟩
   have HX := Lib.hid hx
   obtain ⟨c0,v,c1⟩ := hc k x hx
   have d0 := (hb.cell (p := ⟨g,k * 2,none⟩) hg).trans c0
   have d1 := (hb.cell (p := ⟨g,k * 2 + 1,none⟩) hg).trans c1
   have hst := named_drop t hx
   have b1 := hb.alloc hb.size (.cells #[.string ⟨x.toArray⟩,.string v] 137)
   clear c0 c1 hx
   by_cases he : x = t
   ·rw [if_pos he] at hst
    have HE : Hid (r = k + 1) := Lib.hid (by have := HK.out;rw [hst] at this;simp at this;omega)
    have et : (x == t) = true := by simp [he]
    clear hst he HK
    go_wp2
    go_ret
    exact ⟨ret_v (by rw [HE.out];rfl),b1⟩
   ·rw [if_neg he] at hst
    have HE : Hid (r = if named (names.drop (k + 1)) t = 0 then 0 else named (names.drop (k + 1)) t + (k + 1)) := Lib.hid (by
     have := HK.out;rw [hst] at this;rw [this];split <;> (split <;> simp_all <;> omega))
    have et : (x == t) = false := by simp [he]
    clear hst he HK
    go_wp2
    go_roundw
    case rel => exact ⟨k + 1,by omega,by go_num,HE,b1⟩
    case measure => simp [intOf];omega
  ·have HE : Hid (r = 0) := Lib.hid (by
    have := HK.out
    rw [List.drop_of_length_le (by rw [hN.out];omega)] at this
    simpa [named] using this)
   go_wp2
   go_ret
   exact ⟨ret_v (by rw [HE.out];rfl),hb⟩
end Go.Proofs.YtpkmekdpmkfcdaaGreatDoor.Sr
namespace Go.Proofs.YtpkmekdpmkfcdaaGreatDoor.Sr
set_option linter.unusedVariables false
set_option linter.unusedSimpArgs false
open Go.RowKit Go.Proofs.YtpkmekdpmkfcdaaGreatDoor.Wd Go.Proofs.YtpkmekdpmkfcdaaGreatDoor.Px Go.Proofs.YtpkmekdpmkfcdaaGreatDoor.By Go.Proofs.YtpkmekdpmkfcdaaGreatDoor.En Go.Proofs.YtpkmekdpmkfcdaaGreatDoor.Pl Go.Proofs.YtpkmekdpmkfcdaaGreatDoor.Pf Go.Proofs.YtpkmekdpmkfcdaaGreatDoor.Sc
theorem hexP_odd : ∀ (n : Nat) (l : List UInt8),l.length ≤ n → l.length % 2 = 1 → hexP l = none
 | _,[],_,h => by simp at h
 | _,[_],_,_ => rfl
 | 0,_ :: _ :: _,h,_ => by simp at h
 | n + 1,x :: y :: r,h,ho => by
  simp only [List.length_cons] at h ho
  rw [hexP,hexP_odd n r (by omega) (by omega)]
  split <;> rfl
theorem hexW_odd {l : List UInt8} (h : l.length % 2 = 1) (h1 : l ≠ [45]) : hexW l = none := by
 unfold hexW;rw [if_neg h1];exact hexP_odd _ l (Nat.le_refl _) h
/-- the loop of hex: k pairs are read -/
def HexAt (l : List UInt8) (k : Nat) (dn : List UInt8) : Prop := dn.length = k ∧ 2 * k ≤ l.length ∧ hexP l = (hexP (l.drop (2 * k))).map (dn ++ ·)
theorem HexAt.start (l : List UInt8) : HexAt l 0 [] := ⟨rfl,by omega,by rw [Nat.mul_zero,List.drop_zero];cases hexP l <;> rfl⟩
theorem HexAt.bad {l dn : List UInt8} {k : Nat} (h : HexAt l k dn) (h1 : 2 * k + 1 < l.length) (hb : hexD (l[2 * k]'(by omega)) = none ∨ hexD (l[2 * k + 1]'h1) = none) : hexP l = none := by
 rw [h.2.2,List.drop_eq_getElem_cons (by omega : 2 * k < l.length),List.drop_eq_getElem_cons h1,hexP]
 rcases hb with hb | hb
 ·rw [hb];rfl
 ·rw [hb]
  cases hexD (l[2 * k]'(by omega)) <;> rfl
theorem HexAt.next {l dn : List UInt8} {k a b : Nat} (h : HexAt l k dn) (h1 : 2 * k + 1 < l.length) (ha : hexD (l[2 * k]'(by omega)) = some a) (hb : hexD (l[2 * k + 1]'h1) = some b) : HexAt l (k + 1) (dn ++ [UInt8.ofNat (16 * a + b)]) := by
 obtain ⟨h2,h3,h4⟩ := h
 refine ⟨by simp [h2],by omega,?_⟩
 rw [h4,List.drop_eq_getElem_cons (by omega : 2 * k < l.length),List.drop_eq_getElem_cons h1,hexP,ha,hb]
 simp only
 rw [show 2 * (k + 1) = 2 * k + 1 + 1 by omega]
 cases hexP (l.drop (2 * k + 1 + 1)) <;> simp
theorem HexAt.done {l dn : List UInt8} {k : Nat} (h : HexAt l k dn) (h1 : 2 * k = l.length) : hexP l = some dn := by
 rw [h.2.2,List.drop_of_length_le (by omega)]
 simp [hexP]
theorem hexD_lt {c : UInt8} {a : Nat} (h : hexD c = some a) : a < 16 := by
 unfold hexD at h
 split at h
 ·injection h with h;omega
 split at h
 ·injection h with h;omega
 split at h
 ·injection h with h;omega
 ·cases h
/-- a row of bytes that was made, or the error -/
def BytesR (o : Option (List UInt8)) (bad : Int) (w : World) (e : Ending) (w' : World) : Prop := match o with
 | some b => ∃ A k,e = .returned (.tuple #[.slice A b.length k,.int .i64 0]) ∧ w'.ownsRow w.heap.size 5 1 (.slice A b.length k) b.length (b.map cel)
 | none => e = .returned (.tuple #[.slice none 0 0,.int .i64 bad])
theorem digit_as {c : UInt8} {x d : Int} (h : Hid (dgV c = d)) (hc : Hid ((c.toNat : Int) = x)) (w : World) : Calls Tryz.prog 225 #[.int .u8 x] w fun e w' => e = .returned (.int .i64 d) ∧ w' = w := by
 have := digit_any c x hc.out w
 rwa [h.out] at this
theorem dgV_none {c : UInt8} (h : hexD c = none) : dgV c = -1 := by unfold dgV;rw [h]
theorem dgV_some {c : UInt8} {a : Nat} (h : hexD c = some a) : dgV c = (a : Int) := by unfold dgV;rw [h]
theorem cel_of (n : Nat) (h : n < 256) : cel (UInt8.ofNat n) = .int .u8 (n : Int) := by
 unfold cel;rw [UInt8.toNat_ofNat',Nat.mod_eq_of_lt h]
theorem hx_w8 (d e : Int) (h0 : 0 ≤ d) (h1 : d < 16) (h2 : 0 ≤ e) (h3 : e < 16) : IntKind.u8.wrap (16 * d + e) = 16 * d + e := by
 rw [IntKind.wrap_u8]
 exact Int.emod_eq_of_lt (by omega) (by omega)
theorem hx_cel (a b : Nat) (ha : a < 16) (hb : b < 16) : cel (UInt8.ofNat (16 * a + b)) = .int .u8 (16 * (a : Int) + (b : Int)) := by
 rw [cel_of _ (by omega),Int.natCast_add,Int.natCast_mul]
 rfl
set_option maxRecDepth 20000 in
set_option maxHeartbeats 400000 in
theorem hex_in (l : List UInt8) (hs : l.length ≤ 140737488355328) (w : World) (h45 : l ≠ [45]) (hev : l.length % 2 = 0) :
  Calls Tryz.prog 150 #[.string ⟨l.toArray⟩] w fun e w' => BytesR (hexP l) 225 w e w' ∧ Below w.heap.size w w' := by
 obtain ⟨i0,hi0,hz0,hz1,hz2⟩ := info_parts Tryz.infoB
 have hne : (l == [45]) = false := by simpa using h45
 obtain ⟨s,hse⟩ : ∃ s : ByteArray,s = ⟨l.toArray⟩ := ⟨_,rfl⟩
 have hsz : s.size = l.length := by subst hse;rfl
 have hat : ∀ (k : Nat) (h1 : k < s.size) (h2 : k < l.length),s[k] = l[k] := by subst hse;intro k h1 h2;rfl
 have hne2 : (s.toList == [45]) = false := by rw [Lib.toList_data];subst hse;exact hne
 obtain ⟨m,hm⟩ : ∃ m,s.size = 2 * m := ⟨s.size / 2,by omega⟩
 have HSZ := Lib.hid hsz
 have HAT := Lib.hid hat
 have q2 : Int.tdiv (s.size : Int) 2 = (m : Int) := by rw [Int.tdiv_eq_ediv_of_nonneg (by omega)];omega
 have q3 : Int.tmod (s.size : Int) 2 = 0 := by rw [Int.tmod_eq_emod_of_nonneg (by omega)];omega
 have q4 : wrap64 (m : Int) = (m : Int) := by unfold wrap64;omega
 have HM := Lib.hid hm
 have hs2 : s.size ≤ 140737488355328 := by omega
 have hm3 : m ≤ 70368744177664 := by omega
 rw [← hse]
 clear hse hsz hat hm hne h45 hev
 go_enter Tryz.func150,Tryz.ntmps150
 go_wp2_with (first | (at_make;refine wpList_make_own _ rfl _ _ 85 rfl w.heap.size 5 i0 (.int .u8 0) 1 Tryz.underlying85 hi0 hz0 hz1 _ _ _ m rfl rfl (by first | rfl | omega) (by rw [hz2];have := HM.out;omega) (by have := HM.out;unfold maxLen;omega) (Nat.le_refl _) ?_))
 intro w1 hown1 hg1
 have hb1 : Below w.heap.size w w1 := (Below.refl _ w).grown hg1 (Nat.le_refl _) (fun j hj => by cases hj)
 clear q2 q3 q4 hne2
 go_wp2
 go_loopw [4,5] (fun v i wr => ∃ (k p : Nat) (dn : List UInt8),k ≤ m ∧ Hid (p = 2 * k) ∧ i = .int .i64 (p : Int) ∧ Hid (HexAt l k dn) ∧ (∃ A c,v = .slice A k c) ∧ wr.ownsRow w.heap.size 5 1 v k (dn.map cel) ∧ Below w.heap.size w wr) (fun _ i _ => 2 * m - (intOf i).toNat)
 case atStart => exact ⟨0,0,[],Nat.zero_le _,Lib.hid rfl,rfl,Lib.hid (HexAt.start l),⟨_,_,rfl⟩,hown1,hb1⟩
 case round =>
  obtain ⟨k,p,dn,hk,HP,rfl,HA,⟨A,c,rfl⟩,hown,hbl⟩ := hrel
  clear hown1 hg1 hb1
  have hm2 := HM.out
  have hsl := HSZ.out
  have hp := HP.out
  by_cases hlt : k < m
  ·have i1 : (p : Int) < (s.size : Int) := by omega
   have i2 : (p : Int) + 1 < (s.size : Int) := by omega
   have j1 : p < s.size := by omega
   have j2 : p + 1 < s.size := by omega
   have a1 : s[p] = l[2 * k] := by rw [HAT.out p j1 (by omega)];congr 1
   have a2 : s[p + 1] = l[2 * k + 1] := by rw [HAT.out (p + 1) j2 (by omega)];congr 1;omega
   obtain ⟨x,hx⟩ : ∃ x : Int,((s[p]'j1).toNat : Int) = x := ⟨_,rfl⟩
   obtain ⟨y,hy⟩ : ∃ y : Int,((s[p + 1]'j2).toNat : Int) = y := ⟨_,rfl⟩
   have hnx := fun hx hy => HA.out.next (l := l) (a := hx) (b := hy) (by omega)
   rw [← a1,← a2] at hnx
   have hbd := HA.out.bad (l := l) (by omega)
   rw [← a1,← a2] at hbd
   have HX := Lib.hid hx
   have HY := Lib.hid hy
   have HNX := Lib.hid hnx
   have HBD := Lib.hid hbd
   obtain ⟨d1,hd1⟩ : ∃ d,dgV (s[p]'j1) = d := ⟨_,rfl⟩
   obtain ⟨d2,hd2⟩ : ∃ d,dgV (s[p + 1]'j2) = d := ⟨_,rfl⟩
   have HD1 := Lib.hid hd1
   have HD2 := Lib.hid hd2
   clear hnx hbd a1 a2 hm2 hsl hp
   cases h1 : hexD (s[p]'j1) with
   | none =>
    have e1 : hexP l = none := HBD.out (.inl h1)
    obtain rfl : d1 = -1 := by rw [← hd1];exact dgV_none h1
    have E1 := Lib.hid e1
    clear hd1 hd2 h1 e1
    go_wp2_with fail
    refine wp_region_after (by kernel_rfl) (by kernel_rfl) ?_
    repeat (go_big_quiet_step ((first
     | (go_at_call 225;with_reducible exact after_same (digit_as HD1 HX _))
     | (go_at_call 225;with_reducible exact after_same (digit_as HD2 HY _)))))
    refine wpQuiet_nil ?_
    rintro _ ⟨z,rfl⟩
    have hz := hbl.trans (z.b.mono hbl.size)
    go_wp2
    go_ret2
    exact ⟨by rw [E1.out];exact rfl,hz⟩
   | some a =>
    have ha16 := hexD_lt h1
    have e1 : d1 = (a : Int) := by rw [← hd1];exact dgV_some h1
    have E1' := Lib.hid e1
    have n1 : 0 ≤ d1 := by omega
    have n1' : d1 < 16 := by omega
    clear e1
    cases h2 : hexD (s[p + 1]'j2) with
    | none =>
     have e1 : hexP l = none := HBD.out (.inr h2)
     obtain rfl : d2 = -1 := by rw [← hd2];exact dgV_none h2
     have E1 := Lib.hid e1
     clear hd1 hd2 h1 h2 e1
     go_wp2_with fail
     refine wp_region_after (by kernel_rfl) (by kernel_rfl) ?_
     repeat (go_big_quiet_step ((first
      | (go_at_call 225;with_reducible exact after_same (digit_as HD1 HX _))
      | (go_at_call 225;with_reducible exact after_same (digit_as HD2 HY _)))))
     refine wpQuiet_nil ?_
     rintro _ ⟨z,rfl⟩
     have hz := hbl.trans (z.b.mono hbl.size)
     go_wp2
     go_ret2
     exact ⟨by rw [E1.out];exact rfl,hz⟩
    | some b =>
     have hb16 := hexD_lt h2
     have e2 : d2 = (b : Int) := by rw [← hd2];exact dgV_some h2
     have n2 : 0 ≤ d2 := by omega
     have n2' : d2 < 16 := by omega
     have HN := Lib.hid (HNX.out a b h1 h2)
     have HC : Hid (cel (UInt8.ofNat (16 * a + b)) = .int .u8 (16 * d1 + d2)) := Lib.hid (by rw [hx_cel a b ha16 hb16,← e2,← E1'.out])
     have w3' := hx_w8 d1 d2 n1 n1' n2 n2'
     clear e2
     clear hd1 hd2 h1 h2 HNX HBD
     go_wp2_with fail
     refine wp_region_after (by kernel_rfl) (by kernel_rfl) ?_
     repeat (go_big_quiet_step ((first
      | (go_at_call 225;with_reducible exact after_same (digit_as HD1 HX _))
      | (go_at_call 225;with_reducible exact after_same (digit_as HD2 HY _)))))
     refine wpQuiet_nil ?_
     rintro _ ⟨z,rfl⟩
     have hz := hbl.trans (z.b.mono hbl.size)
     have hoz := own_on hown z.b
     generalize z.w = wz at hz hoz ⊢
     go_wp2_with (at_builtin;go_loud (refine wpList_append_own _ rfl _ _ 85 rfl w.heap.size 5 i0 (.int .u8 0) 1 1 Tryz.underlying85 hi0 hz0 hz1 hz2 rfl (by decide) _ _ _ rfl (hoz.alloc _) ⟨wz.heap.size,0,none⟩ 1 1 [_] rfl rfl (cell_one_new _ _ _) ?c2 ?c3 ?c4 ?c5 ?_))
     case c2 => intro u hu;simp at hu;subst hu;rfl
     case c3 => unfold maxLen;omega
     case c4 => omega
     case c5 => have := hz.size;simp;omega
     intro v' w3 hown' hgrow _
     have hbk3 := (hz.alloc hz.size _).grown hgrow (by have := hz.size;simp;omega) (fun j hj => (hoz.lt j hj).1)
     obtain ⟨A',c',rfl⟩ := own_slice hown'
     clear hown hgrow hbl hoz hz
     have i3 : (p : Int) + 2 ≤ 140737488355328 := by omega
     have i4 : p + 2 = 2 * (k + 1) := by have := HP.out;omega
     have HI4 := Lib.hid i4
     clear i4
     go_wp2
     go_roundw
     case rel => exact ⟨k + 1,p + 2,_,by omega,HI4,by go_num,HN,⟨_,_,rfl⟩,by rw [List.map_append,List.map_singleton,HC.out];exact hown',hbk3⟩
     case measure => have := HM.out;simp [intOf];omega
  ·have hk' : k = m := by omega
   have hd := HA.out.done (by omega)
   have hle := HA.out.1
   have i1 : ¬ (p : Int) < (s.size : Int) := by omega
   have HDN := Lib.hid hd
   clear hm2 hsl hp hd
   subst hk'
   subst hle
   go_wp2
   go_ret2
   exact ⟨by rw [HDN.out];exact ⟨_,_,rfl,hown⟩,hbl⟩
set_option maxRecDepth 20000 in
theorem hex_any (l : List UInt8) (hs : l.length ≤ 140737488355328) (w : World) :
  Calls Tryz.prog 150 #[.string ⟨l.toArray⟩] w fun e w' => BytesR (hexW l) 225 w e w' ∧ Below w.heap.size w w' := by
 by_cases h45 : l = [45]
 ·subst h45
  go_enter Tryz.func150,Tryz.ntmps150
  go_wp2
  go_ret2
  exact ⟨⟨none,0,rfl,World.ownsRow_nil _ _ _ _⟩,Below.refl _ _⟩
 ·by_cases hev : l.length % 2 = 0
  ·have : hexW l = hexP l := by unfold hexW;rw [if_neg h45]
   rw [this]
   exact hex_in l hs w h45 hev
  ·have ho : hexW l = none := hexW_odd (by omega) h45
   have HO := Lib.hid ho
   obtain ⟨s,hse⟩ : ∃ s : ByteArray,s = ⟨l.toArray⟩ := ⟨_,rfl⟩
   have hsz : s.size = l.length := by subst hse;rfl
   have hne : (l == [45]) = false := by simpa using h45
   have hne2 : (s.toList == [45]) = false := by rw [Lib.toList_data];subst hse;exact hne
   have q3 : Int.tmod (s.size : Int) 2 = 1 := by rw [Int.tmod_eq_emod_of_nonneg (by omega)];omega
   rw [← hse]
   clear hse hne h45 ho hev hsz
   go_enter Tryz.func150,Tryz.ntmps150
   go_wp2
   go_ret2
   exact ⟨by rw [HO.out];exact rfl,Below.refl _ _⟩
end Go.Proofs.YtpkmekdpmkfcdaaGreatDoor.Sr
namespace Go.Proofs.YtpkmekdpmkfcdaaGreatDoor.Sr
set_option linter.unusedVariables false
set_option linter.unusedSimpArgs false
open Go.RowKit Go.Proofs.YtpkmekdpmkfcdaaGreatDoor.Wd Go.Proofs.YtpkmekdpmkfcdaaGreatDoor.Px Go.Proofs.YtpkmekdpmkfcdaaGreatDoor.By Go.Proofs.YtpkmekdpmkfcdaaGreatDoor.En Go.Proofs.YtpkmekdpmkfcdaaGreatDoor.Pl Go.Proofs.YtpkmekdpmkfcdaaGreatDoor.Pf Go.Proofs.YtpkmekdpmkfcdaaGreatDoor.Sc
theorem own_same {w w' : World} {base : Nat} {e : TypeId} {s n : Nat} {v : Value} {xs : List Value} (h : w.ownsRow base e s v n xs) (hh : ∀ g,v.ownBlock = some g → w'.heap[g]? = w.heap[g]?) : w'.ownsRow base e s v n xs := by
 obtain ⟨h1,h2⟩ := h
 refine ⟨h1,?_⟩
 rcases h2 with h2 | ⟨g,cap,cur,r1,r2,r3,r4⟩
 ·exact .inl h2
 ·exact .inr ⟨g,cap,cur,r1,r2,(hh g (by rw [r1];rfl)).trans r3,r4⟩
theorem own_low {w : World} {base base' : Nat} {e : TypeId} {s n : Nat} {v : Value} {xs : List Value} (h : w.ownsRow base e s v n xs) (hb : base' ≤ base) : w.ownsRow base' e s v n xs := by
 obtain ⟨h1,h2⟩ := h
 refine ⟨h1,?_⟩
 rcases h2 with h2 | ⟨g,cap,cur,r1,r2,r3,r4⟩
 ·exact .inl h2
 ·exact .inr ⟨g,cap,cur,r1,Nat.le_trans hb r2,r3,r4⟩
theorem own_sl {w : World} {base : Nat} {e : TypeId} {s n : Nat} {v : Value} {xs : List Value} (h : w.ownsRow base e s v n xs) : ∃ A c,v = .slice A n c ∧ n ≤ c := by
 obtain ⟨h1,h2⟩ := h
 rcases h2 with ⟨r1,r2⟩ | ⟨g,cap,cur,r1,r2,r3,r4,r5⟩
 ·subst r2;exact ⟨none,0,r1,Nat.le_refl _⟩
 ·exact ⟨_,_,r1,r4⟩
/-- an iterator over a string at block D -/
def ItAt (D : Nat) (t : ByteArray) (pos : Nat) (W : World) : Prop := W.heap[D]? = some (.stringIter t pos)
theorem ItAt.pos {D : Nat} {t : ByteArray} {pos : Nat} {W : World} (h : ItAt D t pos W) : W.iterPos D = pos := iterPos_of h
theorem ItAt.next {D : Nat} {t : ByteArray} {pos : Nat} {W : World} (h : ItAt D t pos W) (p : Nat) : ItAt D t p (W.iterAt D t p) := Lib.iterAt_heap _ _ _ _ _ h
theorem own_iter {w : World} {base D p : Nat} {t : ByteArray} {e : TypeId} {s n : Nat} {v : Value} {xs : List Value} (h : w.ownsRow base e s v n xs) (hD : D < base) : (w.iterAt D t p).ownsRow base e s v n xs :=
 own_same h fun g hg => Lib.iterAt_other _ _ _ _ _ (by have := (h.lt g hg).1;omega)
theorem grown_heap {w w' : World} {row : Option Nat} (hg : w.grownBy w' row) {k : Nat} (hk : k < w.heap.size) (hne : some k ≠ row) : w'.heap[k]? = w.heap[k]? := hg.block k hk hne
theorem ItAt.grown {D : Nat} {t : ByteArray} {pos : Nat} {w w' : World} {row : Option Nat} (h : ItAt D t pos w) (o : Obj) (hg : (w.alloc o).grownBy w' row) (hr : ∀ k,row = some k → D < k) : ItAt D t pos w' := by
 have hlt : D < w.heap.size := (Array.getElem?_eq_some_iff.1 h).1
 refine (grown_heap hg (by simp;omega) (fun e => absurd (hr D e.symm) (Nat.lt_irrefl _))).trans ?_
 exact (heap_alloc_old w o hlt).trans h
theorem bit_next {l : List UInt8} {pos : Nat} {dn : List Bool} {c : UInt8} (h : bitP l = (bitP (l.drop pos)).map (dn ++ ·)) (hc : l[pos]? = some c) (h1 : c = 48 ∨ c = 49) : bitP l = (bitP (l.drop (pos + 1))).map ((dn ++ [decide (c = 49)]) ++ ·) := by
 obtain ⟨hk,rfl⟩ := List.getElem?_eq_some_iff.1 hc
 rw [h,List.drop_eq_getElem_cons hk,bitP,if_pos h1]
 cases bitP (l.drop (pos + 1)) <;> simp
theorem bit_bad {l : List UInt8} {pos : Nat} {dn : List Bool} {c : UInt8} (h : bitP l = (bitP (l.drop pos)).map (dn ++ ·)) (hc : l[pos]? = some c) (h1 : ¬ (c = 48 ∨ c = 49)) : bitP l = none := by
 obtain ⟨hk,rfl⟩ := List.getElem?_eq_some_iff.1 hc
 rw [h,List.drop_eq_getElem_cons hk,bitP,if_neg h1];rfl
theorem Tryz.infoBool : (Tryz.prog.info? 4).map (fun i => (i.zero,i.size,i.bytes)) = some (some (.bool false),1,1) := by kernel_rfl
/-- a row of bits that was made, or the error -/
def BitsR (o : Option (List Bool)) (bad : Int) (w : World) (e : Ending) (w' : World) : Prop := match o with
 | some b => ∃ A k,e = .returned (.tuple #[.slice A b.length k,.int .i64 0]) ∧ w'.ownsRow w.heap.size 4 1 (.slice A b.length k) b.length (b.map Value.bool)
 | none => e = .returned (.tuple #[.slice none 0 0,.int .i64 bad])
set_option maxRecDepth 20000 in
set_option maxHeartbeats 800000 in
theorem flags_in (l : List UInt8) (hs : l.length ≤ 140737488355328) (w : World) (h45 : l ≠ [45]) :
  Calls Tryz.prog 165 #[.string ⟨l.toArray⟩] w fun e w' => BitsR (bitP l) 223 w e w' ∧ Below w.heap.size w w' := by
 obtain ⟨i0,hi0,hz0,hz1,hz2⟩ := info_parts Tryz.infoBool
 have hne : (l == [45]) = false := by simpa using h45
 obtain ⟨t,hse⟩ : ∃ s : ByteArray,s = ⟨l.toArray⟩ := ⟨_,rfl⟩
 have hll : t.data.toList = l := by subst hse;rfl
 have hne2 : (t.toList == [45]) = false := by rw [Lib.toList_data,hll];exact hne
 have hsz : t.size = l.length := by subst hse;rfl
 have hs2 : t.size ≤ 140737488355328 := by omega
 have HLL := Lib.hid hll
 have HSZ := Lib.hid hsz
 rw [← hse]
 clear hse hsz hne h45 hll
 go_enter Tryz.func165,Tryz.ntmps165
 go_wp2
 clear hne2
 go_loopw [4] (fun v wr => ∃ (pos : Nat) (dn : List Bool),pos ≤ t.size ∧ Hid (bitP l = (bitP (l.drop pos)).map (dn ++ ·)) ∧ Hid (dn.length = pos) ∧ (∃ A c,v = .slice A pos c) ∧ ItAt w.heap.size t pos wr ∧ wr.ownsRow (w.heap.size + 1) 4 1 v pos (dn.map Value.bool) ∧ Below w.heap.size w wr) (fun _ wr => t.size - wr.iterPos w.heap.size)
 case atStart =>
  exact ⟨0,[],Nat.zero_le _,Lib.hid (by rw [List.drop_zero];cases bitP l <;> rfl),Lib.hid rfl,⟨_,_,rfl⟩,World.iter_heap w t 0,World.ownsRow_nil _ _ _ _,(Below.refl _ _).alloc (Nat.le_refl _) _⟩
 case round =>
  obtain ⟨pos,dn,hpos,HB,HL,⟨A,c,rfl⟩,hI,hown,hbl⟩ := hrel
  have hI0 : wr.heap[w.heap.size]? = some (.stringIter t pos) := hI
  by_cases hlt : pos < t.size
  ·have hat := St.get_at hlt
   rw [HLL.out] at hat
   by_cases ha : (t[pos]'hlt).toNat < 128
   ·have hnx : ∀ ty,(Instr.next (.pointer (some ⟨w.heap.size,0,none⟩)) true ty).run Tryz.prog wr = .ok (.tuple #[.bool true,.int .i64 pos,.int .i32 (t[pos]'hlt).toNat]) (wr.iterAt w.heap.size t (pos + 1)) := fun ty => Lib.run_next_ascii_at wr _ t pos ty hI0 hlt ha
    have hI2 := hI.next (pos + 1)
    have hown2 := own_iter (D := w.heap.size) (t := t) (p := pos + 1) hown (Nat.lt_succ_self _)
    have hbl2 := Lib.below_iterAt hbl (k := w.heap.size) (Nat.le_refl _) t (pos + 1)
    obtain ⟨x,hx⟩ : ∃ x : Int,x = ((t[pos]'hlt).toNat : Int) := ⟨_,rfl⟩
    rw [← hx] at hnx
    have hm : t.size - (pos + 1) < t.size - wr.iterPos w.heap.size := by rw [hI.pos];omega
    have HM := Lib.hid hm
    generalize wr.iterAt w.heap.size t (pos + 1) = w2 at hnx hI2 hown2 hbl2
    by_cases h1 : t[pos]'hlt = 48 ∨ t[pos]'hlt = 49
    ·have HN := Lib.hid (bit_next HB.out hat h1)
     have xe : x = 48 ∨ x = 49 := by
      rcases h1 with h | h
      ·left;rw [h] at hx;exact hx
      ·right;rw [h] at hx;exact hx
     obtain ⟨b,hb⟩ : ∃ b,decide (t[pos]'hlt = 49) = b := ⟨_,rfl⟩
     rw [hb] at HN
     have hxb : (x == 49) = b := by
      rw [← hb]
      rcases h1 with h | h
      ·rw [h] at hx ⊢;subst hx;rfl
      ·rw [h] at hx ⊢;subst hx;rfl
     have HB2 := Lib.hid hxb
     clear h1 hb hx hat hm hI hI0 hown hbl HB hxb
     rcases xe with rfl | rfl
     ·have hb0 : b = false := HB2.out.symm
      subst hb0
      go_wp2_with (at_builtin;go_loud (refine wpList_append_own _ rfl _ _ 106 rfl (w.heap.size + 1) 4 i0 (.bool false) 1 1 Tryz.underlying106 hi0 hz0 hz1 hz2 rfl (by decide) _ _ _ rfl (hown2.alloc _) ⟨w2.heap.size,0,none⟩ 1 1 [_] rfl rfl (cell_one_new _ _ _) ?c2 ?c3 ?c4 ?c5 ?_))
      case c2 => intro u hu;simp at hu;subst hu;rfl
      case c3 => unfold maxLen;omega
      case c4 => omega
      case c5 => have := hbl2.size;have := (Array.getElem?_eq_some_iff.1 hI2).1;simp;omega
      intro v' w3 hown' hgrow _
      have hI3 := hI2.grown _ hgrow (fun k hk => (hown2.lt k hk).1)
      have hbl3 := (hbl2.alloc hbl2.size _).grown hgrow (by have := hbl2.size;simp;omega) (fun j hj => by have := (hown2.lt j hj).1;omega)
      obtain ⟨A',c',rfl⟩ := own_slice hown'
      clear hown2 hgrow hbl2 hI2 hnx
      go_wp2
      go_roundw
      case rel => exact ⟨pos + 1,dn ++ [false],by omega,HN,Lib.hid (by rw [List.length_append,HL.out];rfl),⟨_,_,rfl⟩,hI3,by rw [List.map_append,List.map_singleton];exact hown',hbl3⟩
      case measure => rw [hI3.pos];exact HM.out
     ·have hb0 : b = true := HB2.out.symm
      subst hb0
      go_wp2_with (at_builtin;go_loud (refine wpList_append_own _ rfl _ _ 106 rfl (w.heap.size + 1) 4 i0 (.bool false) 1 1 Tryz.underlying106 hi0 hz0 hz1 hz2 rfl (by decide) _ _ _ rfl (hown2.alloc _) ⟨w2.heap.size,0,none⟩ 1 1 [_] rfl rfl (cell_one_new _ _ _) ?c2 ?c3 ?c4 ?c5 ?_))
      case c2 => intro u hu;simp at hu;subst hu;rfl
      case c3 => unfold maxLen;omega
      case c4 => omega
      case c5 => have := hbl2.size;have := (Array.getElem?_eq_some_iff.1 hI2).1;simp;omega
      intro v' w3 hown' hgrow _
      have hI3 := hI2.grown _ hgrow (fun k hk => (hown2.lt k hk).1)
      have hbl3 := (hbl2.alloc hbl2.size _).grown hgrow (by have := hbl2.size;simp;omega) (fun j hj => by have := (hown2.lt j hj).1;omega)
      obtain ⟨A',c',rfl⟩ := own_slice hown'
      clear hown2 hgrow hbl2 hI2 hnx
      go_wp2
      go_roundw
      case rel => exact ⟨pos + 1,dn ++ [true],by omega,HN,Lib.hid (by rw [List.length_append,HL.out];rfl),⟨_,_,rfl⟩,hI3,by rw [List.map_append,List.map_singleton];exact hown',hbl3⟩
      case measure => rw [hI3.pos];exact HM.out
    ·have HN := Lib.hid (bit_bad HB.out hat h1)
     have x8 : (x != 48) = true := by
      rw [bne_iff_ne];intro e;exact h1 (.inl (UInt8.toNat_inj.1 (by show _ = 48;omega)))
     have x9 : (x != 49) = true := by
      rw [bne_iff_ne];intro e;exact h1 (.inr (UInt8.toNat_inj.1 (by show _ = 49;omega)))
     clear h1 hx hat hm hI hI0 hown hbl HB
     go_wp2
     go_ret2
     exact ⟨by rw [HN.out];exact rfl,hbl2⟩
   ·have hnx : ∀ ty,(Instr.next (.pointer (some ⟨w.heap.size,0,none⟩)) true ty).run Tryz.prog wr = .ok (.tuple #[.bool true,.int .i64 pos,.int .i32 (Utf8.decode t pos).1]) (wr.iterAt w.heap.size t (pos + (Utf8.decode t pos).2)) := fun ty => Lib.run_next_any_at wr _ t pos ty hI0 hlt
    have hhi := (decode_high t pos hlt (by omega)).1
    have hbl2 := Lib.below_iterAt hbl (k := w.heap.size) (Nat.le_refl _) t (pos + (Utf8.decode t pos).2)
    obtain ⟨x,hx⟩ : ∃ x : Int,x = ((Utf8.decode t pos).1 : Int) := ⟨_,rfl⟩
    have hx1 : 128 ≤ x := by omega
    rw [← hx] at hnx
    have HN := Lib.hid (bit_bad HB.out hat (by
     rintro (h | h) <;> (rw [h] at ha;exact ha (by decide))))
    have x8 : (x != 48) = true := by rw [bne_iff_ne];omega
    have x9 : (x != 49) = true := by rw [bne_iff_ne];omega
    generalize wr.iterAt w.heap.size t (pos + (Utf8.decode t pos).2) = w2 at hnx hbl2
    clear hx hhi hat ha hI hI0 hown hbl HB
    go_wp2
    go_ret2
    exact ⟨by rw [HN.out];exact rfl,hbl2⟩
  ·have hnx : ∀ ty,(Instr.next (.pointer (some ⟨w.heap.size,0,none⟩)) true ty).run Tryz.prog wr = .ok (.tuple #[.bool false]) wr := fun ty => Lib.run_next_end_at wr _ t pos ty hI0 hlt
   have hd : bitP l = some dn := by
    have := HB.out
    rw [List.drop_of_length_le (by have := HSZ.out;omega)] at this
    simpa [bitP] using this
   have HD := Lib.hid hd
   have hle := HL.out
   subst hle
   clear hd hI hI0
   go_wp2
   go_ret2
   exact ⟨by rw [HD.out];exact ⟨_,_,rfl,own_low hown (Nat.le_succ _)⟩,hbl⟩
set_option maxRecDepth 20000 in
theorem flags_any (l : List UInt8) (hs : l.length ≤ 140737488355328) (w : World) :
  Calls Tryz.prog 165 #[.string ⟨l.toArray⟩] w fun e w' => BitsR (bitW l) 223 w e w' ∧ Below w.heap.size w w' := by
 by_cases h45 : l = [45]
 ·subst h45
  go_enter Tryz.func165,Tryz.ntmps165
  go_wp2
  go_ret2
  exact ⟨⟨none,0,rfl,World.ownsRow_nil _ _ _ _⟩,Below.refl _ _⟩
 ·have : bitW l = bitP l := by unfold bitW;rw [if_neg h45]
  rw [this]
  exact flags_in l hs w h45
end Go.Proofs.YtpkmekdpmkfcdaaGreatDoor.Sr
namespace Go.Proofs.YtpkmekdpmkfcdaaGreatDoor.Sr
set_option linter.unusedVariables false
set_option linter.unusedSimpArgs false
open Go.RowKit Go.Proofs.YtpkmekdpmkfcdaaGreatDoor.Wd Go.Proofs.YtpkmekdpmkfcdaaGreatDoor.Px Go.Proofs.YtpkmekdpmkfcdaaGreatDoor.By Go.Proofs.YtpkmekdpmkfcdaaGreatDoor.En Go.Proofs.YtpkmekdpmkfcdaaGreatDoor.Pl Go.Proofs.YtpkmekdpmkfcdaaGreatDoor.Pf Go.Proofs.YtpkmekdpmkfcdaaGreatDoor.Sc
theorem cells_new (w : World) (a : Array Value) (t : TypeId) : ∀ j u,a.toList[j]? = some u → (w.alloc (.cells a t)).cell? ((⟨w.heap.size,0,none⟩ : Addr).add j) = some u := fun j u h => by
 have e : (⟨w.heap.size,0,none⟩ : Addr).add j = ⟨w.heap.size,0 + j,none⟩ := by unfold Addr.add;split <;> simp_all
 rw [e,World.cell?_alloc_at _ _ _ _ rfl,Nat.zero_add]
 simpa using h
theorem cells_at {n : Nat} {w : World} (hn : n = w.heap.size) (a : Array Value) (t : TypeId) : ∀ j u,a.toList[j]? = some u → (w.alloc (.cells a t)).cell? ((⟨n,0,none⟩ : Addr).add j) = some u := by subst hn;exact cells_new w a t
theorem elem_str : Tryz.prog.elem 37 = 9 := by kernel_rfl
theorem und_strs : Tryz.prog.underlying 37 = some (.slice (Tryz.prog.elem 37)) := by kernel_rfl
theorem infoStr : (Tryz.prog.info? 9).map (fun i => (i.zero,i.size,i.bytes)) = some (some (.string ⟨#[]⟩),1,16) := by kernel_rfl
theorem size_str (W : World) : (sizeOf (Tryz.prog.elem 37)).run Tryz.prog W = .ok 1 W := by
 obtain ⟨i0,hi0,hz0,hz1,hz2⟩ := info_parts infoStr
 rw [elem_str]
 simp [sizeOf,typeInfo,hi0,hz1]
theorem shows_cut {α : Type} {f : α → Value} {w : World} {B : Nat} {A : Option Addr} {l : List α} (h : Shows f w B A l) (i m : Nat) (hm : l.length ≤ m) (him : i ≤ m) (k : Nat) (hk : k ≤ l.length) :
  Shows f w B (if m = i then A else A.map (·.add (i * 1))) ((l.take k).drop i) := fun hp => by
 rw [List.length_drop,List.length_take] at hp
 have hi : i < l.length := by omega
 obtain ⟨b,o,rfl,hb,hc⟩ := h (by omega)
 refine ⟨b,o + i,?_,hb,fun j x hx => ?_⟩
 ·rw [if_neg (by omega)]
  simp [Addr.add]
 ·rw [List.getElem?_drop,List.getElem?_take] at hx
  split at hx
  ·have := hc (i + j) x hx
   rwa [← Nat.add_assoc] at this
  ·cases hx
/-- l[i:]: one run, and what it shows -/
theorem cut_from {w : World} {B n c : Nat} {A : Option Addr} {l : List (List UInt8)} (h : Shows strc w B A l) (hn : l.length = n) (hc : n ≤ c) (i : Nat) (hi : i ≤ n) :
  ∃ A' c',(∀ (W : World) (k : Int),k = (i : Int) → (Instr.slice 37 (.slice A n c) (some (.int .i64 k)) none none).run Tryz.prog W = .ok (.slice A' (n - i) c') W) ∧ n - i ≤ c' ∧ Shows strc w B A' (l.drop i) := by
 refine ⟨if c = i then A else A.map (·.add (i * 1)),c - i,fun W k hk => ?_,by omega,?_⟩
 ·subst hk
  rw [run_slice_l W 37 A n c und_strs .i64 (i : Int) (by omega) (by omega),size_str,Result.andThen_ok]
  simp only [sliced,Int.toNat_natCast]
 ·have := shows_cut h i c (by omega) (by omega) l.length (Nat.le_refl _)
  rwa [List.take_length] at this
/-- l[i:j] -/
theorem cut_mid {w : World} {B n c : Nat} {A : Option Addr} {l : List (List UInt8)} (h : Shows strc w B A l) (hn : l.length = n) (hc : n ≤ c) (i j : Nat) (hij : i ≤ j) (hj : j ≤ n) :
  ∃ A' c',(∀ (W : World) (k m : Int),k = (i : Int) → m = (j : Int) → (Instr.slice 37 (.slice A n c) (some (.int .i64 k)) (some (.int .i64 m)) none).run Tryz.prog W = .ok (.slice A' (j - i) c') W) ∧ j - i ≤ c' ∧ Shows strc w B A' ((l.take j).drop i) := by
 refine ⟨if c = i then A else A.map (·.add (i * 1)),c - i,fun W k m hk hm => ?_,by omega,?_⟩
 ·subst hk hm
  rw [run_slice_lh W 37 A n c und_strs .i64 .i64 (i : Int) (j : Int) (by omega) (by omega) (by omega),size_str,Result.andThen_ok]
  simp only [sliced,Int.toNat_natCast]
 ·exact shows_cut h i c (by omega) (by omega) j (by omega)
def lnOf : Value → Nat
 | .slice _ n _ => n
 | _ => 0
def fltC (f : Int × Int) : List Value := [.int .i64 f.1,.int .i64 f.2]
theorem infoFault : (Tryz.prog.info? 125).map (fun i => (i.zero,i.size,i.bytes)) = some (some (.agg #[.int .i64 0,.int .i64 0]),2,16) := by kernel_rfl
def FaultsR (o : Except Int (List (Int × Int))) (w : World) (e : Ending) (w' : World) : Prop := match o with
 | .ok l => ∃ A k,e = .returned (.tuple #[.slice A l.length k,.int .i64 0]) ∧ w'.ownsRow w.heap.size 125 2 (.slice A l.length k) l.length (l.flatMap fltC)
 | .error x => e = .returned (.tuple #[.slice none 0 0,.int .i64 x])
/-- the loop of faults: dn is read, r is left -/
def FltAt (l r : List (List UInt8)) (dn : List (Int × Int)) : Prop := flts l = match flts r with
 | .error e => .error e
 | .ok x => .ok (dn ++ x)
theorem FltAt.start (l : List (List UInt8)) : FltAt l l [] := by unfold FltAt;cases flts l <;> rfl
theorem FltAt.done {l r : List (List UInt8)} {dn : List (Int × Int)} (h : FltAt l r dn) (hr : r.length < 2) : flts l = .ok dn := by
 unfold FltAt at h
 match r,hr,h with
 | [],_,h => rw [h];simp [flts]
 | [_],_,h => rw [h];simp [flts]
theorem FltAt.word {l r : List (List UInt8)} {dn : List (Int × Int)} {a b : List UInt8} (h : FltAt l (a :: b :: r) dn) (h0 : fltK a = 0) : flts l = .error 222 := by
 unfold FltAt at h;rw [h,flts,if_pos h0]
theorem FltAt.num {l r : List (List UInt8)} {dn : List (Int × Int)} {a b : List UInt8} (h : FltAt l (a :: b :: r) dn) (h0 : fltK a ≠ 0) (hn : numW b = none) : flts l = .error 223 := by
 unfold FltAt at h;rw [h,flts,if_neg h0,hn]
theorem FltAt.next {l r : List (List UInt8)} {dn : List (Int × Int)} {a b : List UInt8} {n : Nat} (h : FltAt l (a :: b :: r) dn) (h0 : fltK a ≠ 0) (hn : numW b = some n) : FltAt l r (dn ++ [((n : Int),(fltK a : Int))]) := by
 unfold FltAt at h ⊢;rw [h,flts,if_neg h0,hn]
 cases flts r <;> simp
theorem number_as {l : List UInt8} {o : Option Nat} (h : Hid (numW l = o)) (hs : l.length ≤ 140737488355328) (w : World) (hE : Env w) :
  Calls Tryz.prog 77 #[.string ⟨l.toArray⟩] w fun e w' => e = .returned (ofN o) ∧ Below w.heap.size w w' := by
 have := number_any l hs w hE
 rwa [h.out] at this
set_option maxRecDepth 20000 in
set_option maxHeartbeats 1600000 in
theorem faults_any (l : List (List UInt8)) (A : Option Addr) (c : Nat) (w : World) (hE : Env w) (hl : l.length ≤ 2000000) (hc : l.length ≤ c) (hs : Shows strc w w.heap.size A l) (hw : ∀ x ∈ l,x.length ≤ 2000000) :
  Calls Tryz.prog 166 #[.slice A l.length c] w fun e w' => FaultsR (flts l) w e w' ∧ Below w.heap.size w w' := by
 obtain ⟨i0,hi0,hz0,hz1,hz2'⟩ := info_parts infoFault
 obtain ⟨N,hN⟩ : ∃ N,l.length = N := ⟨_,rfl⟩
 rw [hN] at hl hc ⊢
 have HN := Lib.hid hN
 clear hN
 go_enter Tryz.func166,Tryz.ntmps166
 go_wp2
 go_loopw [0,4] (fun a v wr => ∃ (A : Option Addr) (n c k : Nat) (r : List (List UInt8)) (dn : List (Int × Int)),a = .slice A n c ∧ n ≤ c ∧ n ≤ N ∧ Hid (r.length = n) ∧ Shows strc w w.heap.size A r ∧ Hid (∀ x ∈ r,x.length ≤ 2000000) ∧ Hid (FltAt l r dn) ∧ Hid (dn.length = k) ∧ n + 2 * k ≤ N ∧ (∃ A c,v = .slice A k c) ∧ wr.ownsRow w.heap.size 125 2 v k (dn.flatMap fltC) ∧ Below w.heap.size w wr) (fun a _ _ => lnOf a)
 case atStart => exact ⟨A,N,c,0,l,[],rfl,hc,Nat.le_refl _,HN,hs,Lib.hid hw,Lib.hid (FltAt.start l),Lib.hid rfl,by omega,⟨_,_,rfl⟩,World.ownsRow_nil _ _ _ _,Below.refl _ _⟩
 case round =>
  obtain ⟨A',n,c',k,r,dn,rfl,hnc,hnN,HR,hs',HW,HF,HK,hnk,⟨Av,cv,rfl⟩,hown,hbl⟩ := hrel
  clear hs hc hw
  by_cases hlt : 1 < n
  ·have i1 : (1 : Int) < (n : Int) := by omega
   obtain ⟨a,b,r2,hr⟩ : ∃ a b r2,r = a :: b :: r2 := by
    have := HR.out
    match r,this with
    | [],h => simp at h;omega
    | [_],h => simp at h;omega
    | a :: b :: r2,_ => exact ⟨a,b,r2,rfl⟩
   subst hr
   have hla := HW.out a (by simp)
   have hlb := HW.out b (by simp)
   obtain ⟨A2,c2,hcut,hc2,hs2⟩ := cut_from hs' HR.out hnc 2 (by omega)
   obtain ⟨bb,o,rfl,hbb,hcell⟩ := hs' (by simp)
   have c0 := (hbl.cell (p := ⟨bb,o + 0,none⟩) hbb).trans (hcell 0 a rfl)
   have c1 := (hbl.cell (p := ⟨bb,o + 1,none⟩) hbb).trans (hcell 1 b rfl)
   rw [Nat.add_zero] at c0
   unfold strc at c0 c1
   have hwr : w.heap.size ≤ wr.heap.size := hbl.size
   have hbw : bb < wr.heap.size := Nat.lt_of_lt_of_le hbb hbl.size
   have hbn : bb ≠ wr.heap.size := Nat.ne_of_lt hbw
   obtain ⟨o1,ho1⟩ : ∃ o,numW b = o := ⟨_,rfl⟩
   have HB := Lib.hid ho1
   by_cases hp : a = pow
   ·have e1 : (a == [112,111,119,101,114]) = true := by rw [hp];rfl
    have hk : fltK a = 1 := by rw [hp];rfl
    clear hp
    have hk0 : fltK a ≠ 0 := by rw [hk];decide
    have hz := hbl.alloc hbl.size (.cells #[.int .i64 0,.int .i64 1] 125)
    have hown1 := hown.alloc (.cells #[.int .i64 0,.int .i64 1] 125)
    have d0 : (wr.alloc (.cells #[.int .i64 0,.int .i64 1] 125)).cell? ⟨wr.heap.size,0,none⟩ = some (.int .i64 0) := by go_simp
    have d1 : (wr.alloc (.cells #[.int .i64 0,.int .i64 1] 125)).cell? ⟨wr.heap.size,1,none⟩ = some (.int .i64 1) := by go_simp
    have df : ∀ o,(wr.alloc (.cells #[.int .i64 0,.int .i64 1] 125)).frozen? ⟨wr.heap.size,o,none⟩ = false := fun o => by go_simp
    have c1' : (wr.alloc (.cells #[.int .i64 0,.int .i64 1] 125)).cell? ⟨bb,o + 1,none⟩ = some (.string ⟨b.toArray⟩) := by
         exact (World.cell?_of_block (a := ⟨bb,o + 1,none⟩) (heap_alloc_old wr _ hbw)).trans c1
    have hlen : (wr.alloc (.cells #[.int .i64 0,.int .i64 1] 125)).heap.size = wr.heap.size + 1 := by simp
    clear hs' hcell
    go_wp2_with fail
    refine (number_as HB (by omega) _ (hE.on hz)).mono ?_
    generalize wr.alloc (.cells #[.int .i64 0,.int .i64 1] 125) = w1 at hz hown1 d0 d1 df c1' hlen ⊢
    rintro e w2 ⟨rfl,hb2⟩
    have hz2 := hz.trans (hb2.mono hz.size)
    have f0 := keepc hb2 d0
    have f1 := keepc hb2 d1
    have ff := keepf hb2 (b := wr.heap.size) (by omega) df
    have hlt1 : ∀ g,(Value.slice Av k cv).ownBlock = some g → g < wr.heap.size := fun g hg => (hown.lt g hg).2
    have hlt2 : wr.heap.size < w2.heap.size := by have := hb2.size;omega
    have hown2 := own_on hown1 hb2
    clear c0 c1 c1' d0 d1 df hown1 hown hbl
    cases o1 with
    | none =>
     have HE := Lib.hid (HF.out.num hk0 ho1)
     have hz3 := hz2.setCell (p := ⟨wr.heap.size,0,none⟩) hwr (.int .i64 0)
     clear hk hk0 ho1 hz hlen hb2
     simp only [ofN]
     go_wp2
     go_ret2
     exact ⟨by rw [HE.out];exact rfl,hz3⟩
    | some m =>
     have hn := HF.out.next hk0 ho1
     rw [hk] at hn
     have HX := Lib.hid hn
     have hm9 : (m : Int) ≤ 4294967295 := by have := numW_le ho1;omega
     have hz3 := hz2.setCell (p := ⟨wr.heap.size,0,none⟩) hwr (.int .i64 (m : Int))
     have hown3 := own_same (w' := w2.setCell ⟨wr.heap.size,0,none⟩ (.int .i64 (m : Int))) hown2 (fun g hg => Below.heap_setCell _ _ _ g (by have := hlt1 g hg;show g ≠ wr.heap.size;omega))
     have g0 : (w2.setCell ⟨wr.heap.size,0,none⟩ (.int .i64 (m : Int))).cell? ⟨wr.heap.size,0,none⟩ = some (.int .i64 (m : Int)) := by go_simp
     have g1 : (w2.setCell ⟨wr.heap.size,0,none⟩ (.int .i64 (m : Int))).cell? ⟨wr.heap.size,1,none⟩ = some (.int .i64 1) := by go_simp
     clear hn hk hk0 ho1 hz hlen hb2 g0 g1
     simp only [ofN]
     go_wp2_with (at_builtin;go_loud (refine wpList_append_own _ rfl _ _ 105 rfl w.heap.size 125 i0 (.agg #[.int .i64 0,.int .i64 0]) 2 16 Tryz.underlying105 hi0 hz0 hz1 hz2' rfl (by decide) _ _ _ rfl (hown3.alloc _) ⟨w2.heap.size,0,none⟩ 1 1 [_,_] rfl rfl (cells_at (by simp) _ _) ?c2 ?c3 ?c4 ?c5 ?_))
     case c2 => intro u hu;simp at hu;rcases hu with rfl | rfl <;> rfl
     case c3 => unfold maxLen;omega
     case c4 => omega
     case c5 => have := hz3.size;simp at this ⊢;omega
     intro v' w3 hown' hgrow _
     have hbk3 := (hz3.alloc hz3.size _).grown hgrow (by have := hz3.size;simp at this ⊢;omega) (fun j hj => (hown2.lt j hj).1)
     obtain ⟨A',c',rfl,-⟩ := own_sl hown'
     have hcut' := fun W => hcut W 2 rfl
     clear hown2 hown3 hgrow hz3 hz2 hlt1 f0 f1 ff hcut
     go_wp2
     go_roundw
     case rel => exact ⟨A2,n - 2,c2,k + 1,r2,_,rfl,hc2,by omega,Lib.hid (by have := HR.out;simp at this;omega),hs2,Lib.hid fun x hx => HW.out x (by simp [hx]),HX,Lib.hid (by rw [List.length_append,HK.out];rfl),by omega,⟨_,_,rfl⟩,by rw [List.flatMap_append];exact hown',hbk3⟩
     case measure => simp [lnOf];omega
   ·have e1 : (a == [112,111,119,101,114]) = false := by rw [beq_eq_false_iff_ne];exact hp
    by_cases hq : a = inou
    ·have e2 : (a == [105,111]) = true := by rw [hq];rfl
     have hk : fltK a = 2 := by rw [hq];rfl
     clear hp hq
     have hk0 : fltK a ≠ 0 := by rw [hk];decide
     have hz := hbl.alloc hbl.size (.cells #[.int .i64 0,.int .i64 2] 125)
     have hown1 := hown.alloc (.cells #[.int .i64 0,.int .i64 2] 125)
     have d0 : (wr.alloc (.cells #[.int .i64 0,.int .i64 2] 125)).cell? ⟨wr.heap.size,0,none⟩ = some (.int .i64 0) := by go_simp
     have d1 : (wr.alloc (.cells #[.int .i64 0,.int .i64 2] 125)).cell? ⟨wr.heap.size,1,none⟩ = some (.int .i64 2) := by go_simp
     have df : ∀ o,(wr.alloc (.cells #[.int .i64 0,.int .i64 2] 125)).frozen? ⟨wr.heap.size,o,none⟩ = false := fun o => by go_simp
     have c1' : (wr.alloc (.cells #[.int .i64 0,.int .i64 2] 125)).cell? ⟨bb,o + 1,none⟩ = some (.string ⟨b.toArray⟩) := by
           exact (World.cell?_of_block (a := ⟨bb,o + 1,none⟩) (heap_alloc_old wr _ hbw)).trans c1
     have hlen : (wr.alloc (.cells #[.int .i64 0,.int .i64 2] 125)).heap.size = wr.heap.size + 1 := by simp
     clear hs' hcell
     go_wp2_with fail
     refine (number_as HB (by omega) _ (hE.on hz)).mono ?_
     generalize wr.alloc (.cells #[.int .i64 0,.int .i64 2] 125) = w1 at hz hown1 d0 d1 df c1' hlen ⊢
     rintro e w2 ⟨rfl,hb2⟩
     have hz2 := hz.trans (hb2.mono hz.size)
     have f0 := keepc hb2 d0
     have f1 := keepc hb2 d1
     have ff := keepf hb2 (b := wr.heap.size) (by omega) df
     have hlt1 : ∀ g,(Value.slice Av k cv).ownBlock = some g → g < wr.heap.size := fun g hg => (hown.lt g hg).2
     have hlt2 : wr.heap.size < w2.heap.size := by have := hb2.size;omega
     have hown2 := own_on hown1 hb2
     clear c0 c1 c1' d0 d1 df hown1 hown hbl
     cases o1 with
     | none =>
      have HE := Lib.hid (HF.out.num hk0 ho1)
      have hz3 := hz2.setCell (p := ⟨wr.heap.size,0,none⟩) hwr (.int .i64 0)
      clear hk hk0 ho1 hz hlen hb2
      simp only [ofN]
      go_wp2
      go_ret2
      exact ⟨by rw [HE.out];exact rfl,hz3⟩
     | some m =>
      have hn := HF.out.next hk0 ho1
      rw [hk] at hn
      have HX := Lib.hid hn
      have hm9 : (m : Int) ≤ 4294967295 := by have := numW_le ho1;omega
      have hz3 := hz2.setCell (p := ⟨wr.heap.size,0,none⟩) hwr (.int .i64 (m : Int))
      have hown3 := own_same (w' := w2.setCell ⟨wr.heap.size,0,none⟩ (.int .i64 (m : Int))) hown2 (fun g hg => Below.heap_setCell _ _ _ g (by have := hlt1 g hg;show g ≠ wr.heap.size;omega))
      have g0 : (w2.setCell ⟨wr.heap.size,0,none⟩ (.int .i64 (m : Int))).cell? ⟨wr.heap.size,0,none⟩ = some (.int .i64 (m : Int)) := by go_simp
      have g1 : (w2.setCell ⟨wr.heap.size,0,none⟩ (.int .i64 (m : Int))).cell? ⟨wr.heap.size,1,none⟩ = some (.int .i64 2) := by go_simp
      clear hn hk hk0 ho1 hz hlen hb2 g0 g1
      simp only [ofN]
      go_wp2_with (at_builtin;go_loud (refine wpList_append_own _ rfl _ _ 105 rfl w.heap.size 125 i0 (.agg #[.int .i64 0,.int .i64 0]) 2 16 Tryz.underlying105 hi0 hz0 hz1 hz2' rfl (by decide) _ _ _ rfl (hown3.alloc _) ⟨w2.heap.size,0,none⟩ 1 1 [_,_] rfl rfl (cells_at (by simp) _ _) ?c2 ?c3 ?c4 ?c5 ?_))
      case c2 => intro u hu;simp at hu;rcases hu with rfl | rfl <;> rfl
      case c3 => unfold maxLen;omega
      case c4 => omega
      case c5 => have := hz3.size;simp at this ⊢;omega
      intro v' w3 hown' hgrow _
      have hbk3 := (hz3.alloc hz3.size _).grown hgrow (by have := hz3.size;simp at this ⊢;omega) (fun j hj => (hown2.lt j hj).1)
      obtain ⟨A',c',rfl,-⟩ := own_sl hown'
      have hcut' := fun W => hcut W 2 rfl
      clear hown2 hown3 hgrow hz3 hz2 hlt1 f0 f1 ff hcut
      go_wp2
      go_roundw
      case rel => exact ⟨A2,n - 2,c2,k + 1,r2,_,rfl,hc2,by omega,Lib.hid (by have := HR.out;simp at this;omega),hs2,Lib.hid fun x hx => HW.out x (by simp [hx]),HX,Lib.hid (by rw [List.length_append,HK.out];rfl),by omega,⟨_,_,rfl⟩,by rw [List.flatMap_append];exact hown',hbk3⟩
      case measure => simp [lnOf];omega
    ·have e2 : (a == [105,111]) = false := by rw [beq_eq_false_iff_ne];exact hq
     have hk : fltK a = 0 := by unfold fltK;rw [if_neg hp,if_neg hq]
     have HE := Lib.hid (HF.out.word hk)
     have hz := hbl.alloc hbl.size (.cells #[.int .i64 0,.int .i64 0] 125)
     clear hp hq hk ho1 hs2 hs' hcell hcut
     go_wp2
     trace_state
     go_ret2
     exact ⟨by rw [HE.out];exact rfl,hz⟩
  ·have HD := Lib.hid (HF.out.done (by have := HR.out;omega))
   have hle := HK.out
   subst hle
   go_wp2
   go_ret2
   exact ⟨by rw [HD.out];exact ⟨_,_,rfl,hown⟩,hbl⟩
end Go.Proofs.YtpkmekdpmkfcdaaGreatDoor.Sr
