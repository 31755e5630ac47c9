/- Contracts: a stamp's text by the reference; a stamp out of its text, by the program. -/
import Derived.Test.YtpkmekdpmkfcdaaGreatDoorDigits
import Derived.Laws.RangeAny
import Derived.Lib.Strings
namespace Go.Proofs.YtpkmekdpmkfcdaaGreatDoor.St
open Go.RowKit Go.Proofs.YtpkmekdpmkfcdaaGreatDoor.Wd Go.Proofs.YtpkmekdpmkfcdaaGreatDoor.Pl Go.Proofs.YtpkmekdpmkfcdaaGreatDoor.En Go.Proofs.YtpkmekdpmkfcdaaGreatDoor.By
theorem rprint_no (s n : Int) (w : World) (hv : vld s n = false) :
  Calls Tryz.prog 249 #[.agg #[.int .i64 s,.int .i64 n]] w fun e w' => e = .returned (.string ⟨#[]⟩) ∧ Below w.heap.size w w' := by
 go_enter Tryz.func249,Tryz.ntmps249
 go_wp2_with fail
 refine (rvalid_any _ _ _).mono ?_
 rintro e w1 ⟨rfl,hb⟩
 rw [hv]
 go_wp2
 go_ret
 exact ⟨rfl,((Below.refl _ w).alloc (Nat.le_refl _) _).trans (hb.mono (by simp))⟩
theorem dg_1 (n : Nat) : dg n 1 = Lib.decDigits n := by
 rw [dg_pad n 1 (.inl (Nat.le_refl _))]
 have h2 : 0 < (Lib.decDigits n).length := List.length_pos_iff.2 (decDigits_ne n)
 unfold padTo
 rw [show 1 - (Lib.decDigits n).length = 0 by omega]
 rfl
set_option maxHeartbeats 1000000 in
theorem rprint_yes (s n : Int) (w : World) (h1 : 0 ≤ s) (h0 : s ≤ 9223372036854775807) (h2 : 0 ≤ n) (h3 : n ≤ 999999999) :
  Calls Tryz.prog 249 #[.agg #[.int .i64 s,.int .i64 n]] w fun e w' => e = .returned (.string ⟨(prt s n).toArray⟩) ∧ Below w.heap.size w w' := by
 have hv : vld s n = true := by rw [vld_iff];omega
 obtain ⟨a,rfl⟩ : ∃ a : Nat,s = a := ⟨s.toNat,by omega⟩
 obtain ⟨b,rfl⟩ : ∃ b : Nat,n = b := ⟨n.toNat,by omega⟩
 go_enter Tryz.func249,Tryz.ntmps249
 go_wp2_with fail
 refine (rvalid_any _ _ _).mono ?_
 rintro e w1 ⟨rfl,hb⟩
 rw [hv]
 have c0 := keepc hb (b := w.heap.size) (o := 0) (v := .int .i64 a) (by go_simp)
 have c1 := keepc hb (b := w.heap.size) (o := 1) (v := .int .i64 b) (by go_simp)
 have hbw : Below w.heap.size w w1 := ((Below.refl _ w).alloc (Nat.le_refl _) _).trans (hb.mono (by simp))
 clear hb
 go_wp2_with fail
 refine (digits_any a 1 _ (by omega) (by omega) (by omega)).mono ?_
 rintro e w2 ⟨rfl,hb2⟩
 have d1 := keepc hb2 c1
 have hbw2 : Below w.heap.size w w2 := hbw.trans (hb2.mono hbw.size)
 clear c0 c1 hb2
 go_wp2_with fail
 refine (digits_any b 9 _ (by omega) (by omega) (by omega)).mono ?_
 rintro e w3 ⟨rfl,hb3⟩
 have hl1 := (dg_len a 1 (by omega) (by omega) (by omega)).1
 have hl2 := (dg_len b 9 (by omega) (by omega) (by omega)).1
 go_wp2
 go_ret
 refine ⟨ret_str ?_,hbw2.trans (hb3.mono hbw2.size)⟩
 rw [prt_of _ _ hv,dg_1,dg_pad b 9 (by omega)]
 simp only [str_cat,List.append_assoc,List.cons_append,List.nil_append,Int.toNat_natCast]
/-- what Parse answers -/
noncomputable def ofPrs : Option (Int × Int) → Value
 | some p => .tuple #[.agg #[.int .i64 p.1,.int .i64 p.2],.int .i64 0]
 | none => .tuple #[.agg #[.int .i64 0,.int .i64 0],.int .i64 60]
/-- what the program's scan knows when pos bytes are over: no point yet, or one at q -/
def Scan (l : List UInt8) (pos : Nat) (p : Int) : Prop :=
 (p = -1 ∧ ∀ j c,j < pos → l[j]? = some c → isDig c = true) ∨
 (∃ q : Nat,p = q ∧ q < pos ∧ l[q]? = some 46 ∧ ∀ j c,j < pos → j ≠ q → l[j]? = some c → isDig c = true)
theorem Scan.dig {l : List UInt8} {pos : Nat} {p : Int} {c : UInt8} (h : Scan l pos p) (hc : l[pos]? = some c) (hd : isDig c = true) : Scan l (pos + 1) p := by
 rcases h with ⟨h1,h2⟩ | ⟨q,h1,h2,h3,h4⟩
 ·refine .inl ⟨h1,fun j d hj hjd => ?_⟩
  rcases Nat.lt_or_ge j pos with hlt | hge
  ·exact h2 j d hlt hjd
  ·obtain rfl : j = pos := by omega
   rw [hc] at hjd;injection hjd with e;rw [← e];exact hd
 ·refine .inr ⟨q,h1,by omega,h3,fun j d hj hjq hjd => ?_⟩
  rcases Nat.lt_or_ge j pos with hlt | hge
  ·exact h4 j d hlt hjq hjd
  ·obtain rfl : j = pos := by omega
   rw [hc] at hjd;injection hjd with e;rw [← e];exact hd
theorem Scan.point {l : List UInt8} {pos : Nat} {p : Int} (h : Scan l pos p) (hp : p < 0) (hc : l[pos]? = some 46) : Scan l (pos + 1) pos := by
 rcases h with ⟨h1,h2⟩ | ⟨q,h1,h2,h3,h4⟩
 ·refine .inr ⟨pos,rfl,by omega,hc,fun j d hj hjq hjd => ?_⟩
  exact h2 j d (by omega) hjd
 ·omega
theorem Scan.bad {l : List UInt8} {pos : Nat} {p : Int} {c : UInt8} (h : Scan l pos p) (hc : l[pos]? = some c) (hd : isDig c = false) (hp : c = 46 → ¬ p < 0) : prs l = none := by
 refine prs_bad hc hd fun h46 => ?_
 rcases h with ⟨h1,h2⟩ | ⟨q,h1,h2,h3,h4⟩
 ·have := hp h46;omega
 ·exact ⟨q,h2,h3⟩
theorem Scan.lo {l : List UInt8} {pos : Nat} {p : Int} (h : Scan l pos p) : -1 ≤ p ∧ p < pos := by
 rcases h with ⟨h1,h2⟩ | ⟨q,h1,h2,h3,h4⟩ <;> omega
theorem Scan.none_ {l : List UInt8} {p : Int} (h : Scan l l.length p) (hp : p < 0) : prs l = none := by
 rcases h with ⟨h1,h2⟩ | ⟨q,h1,h2,h3,h4⟩
 ·refine prs_nopoint fun c hc => ?_
  obtain ⟨j,hj,e⟩ := List.getElem_of_mem hc
  have := h2 j c hj (by rw [List.getElem?_eq_getElem hj,e])
  rintro rfl
  exact absurd this (by decide)
 ·omega
theorem Scan.cut {l : List UInt8} {q : Nat} (h : Scan l l.length q) : q < l.length ∧ l = l.take q ++ 46 :: l.drop (q + 1) ∧ ∀ c ∈ l.take q,isDig c = true := by
 rcases h with ⟨h1,h2⟩ | ⟨q',h1,h2,h3,h4⟩
 ·omega
 ·obtain rfl : q = q' := by omega
  refine ⟨h2,?_,fun c hc => ?_⟩
  ·have e := List.getElem?_eq_some_iff.1 h3
   obtain ⟨h5,h6⟩ := e
   conv => lhs;rw [← List.take_append_drop q l,List.drop_eq_getElem_cons h5,h6]
  ·obtain ⟨j,hj,e⟩ := List.getElem_of_mem hc
   rw [List.length_take] at hj
   rw [List.getElem_take] at e
   exact h4 j c (by omega) (by omega) (by rw [List.getElem?_eq_getElem (by omega),e])
end Go.Proofs.YtpkmekdpmkfcdaaGreatDoor.St
