/- Contract: strconv.ParseUint at base 16 and 16 bits, for every text. Contracts: strconv.ParseUint at base 16 and 16 bits, at base 10 and 8 bits, for every text: a number, or an error that is not nil. -/
import Derived.Test.YtpkmekdpmkfcdaaGreatDoorEnv
import Derived.Test.YtpkmekdpmkfcdaaGreatDoorPrefixText
import Derived.Shelf.Pu.Lower
import Derived.Shelf.Pu.ToError
import Derived.Shelf.Pu.ToErrorRange
import Derived.Shelf.Pu.ErrVarParseUint
import Derived.Lib.ConvBytes
import Derived.Laws.Closers25
import Derived.Laws.Closers25b
import Derived.BigGuard
namespace Go.Proofs.YtpkmekdpmkfcdaaGreatDoor.En
open Go.RowKit Go.Proofs.YtpkmekdpmkfcdaaGreatDoor.Wd Go.Proofs.YtpkmekdpmkfcdaaGreatDoor.Px
/-- the value of a hexadecimal digit, small or great; 16: it is none -/
def hexg (c : UInt8) : Nat := if 48 ≤ c.toNat ∧ c.toNat ≤ 57 then c.toNat - 48 else if 97 ≤ (c.toNat ||| 32) ∧ (c.toNat ||| 32) ≤ 102 then (c.toNat ||| 32) - 87 else 16
/-- what a row of hexadecimal digits spells behind acc, if it is less than 2^16 -/
def rd16 (acc : Nat) : List UInt8 → Option Nat
 | [] => some acc
 | c :: r => if hexg c = 16 then none else if 65535 < acc * 16 + hexg c then none else rd16 (acc * 16 + hexg c) r
def v16 (l : List UInt8) : Option Nat := if l = [] then none else rd16 0 l
theorem rd16_ok {acc : Nat} {c : UInt8} {r : List UInt8} (h : hexg c ≠ 16) (h2 : ¬ 65535 < acc * 16 + hexg c) : rd16 acc (c :: r) = rd16 (acc * 16 + hexg c) r := by rw [rd16,if_neg h,if_neg h2]
theorem rd16_no {acc : Nat} {c : UInt8} {r : List UInt8} (h : hexg c = 16) : rd16 acc (c :: r) = none := by rw [rd16,if_pos h]
theorem rd16_over {acc : Nat} {c : UInt8} {r : List UInt8} (h2 : 65535 < acc * 16 + hexg c) : rd16 acc (c :: r) = none := by
 rw [rd16];split
 ·rfl
 ·rfl
/-- what the library's inner function answers: a number, or an error of one of two kinds -/
def inner16 (o : Option Nat) (e : Ending) : Prop := match o with
 | some u => e = .returned (.tuple #[.int .u64 (u : Int),.nilIface])
 | none => e = .returned (.tuple #[.int .u64 0,.iface 314 (.int .i64 2)]) ∨ e = .returned (.tuple #[.int .u64 65535,.iface 314 (.int .i64 1)])
theorem lower_as {c : Int} {L : Int} (h : bits .or .u8 c 32 = L) (w : World) : Calls Tryz.prog 264 #[.int .u8 c] w fun e w' => e = .returned (.int .u8 L) ∧ w' = w := by
 have := AnyPu.internal_strconv_lower { Tryz.laysPu14 with } c w
 rwa [h] at this
set_option maxHeartbeats 8000000 in
set_option maxRecDepth 100000 in
theorem inner16_any (t : ByteArray) (hne : t.size ≠ 0) (hmax : t.size ≤ 140737488355328) (w : World) :
  Calls Tryz.prog 242 #[.string t,.int .i64 16,.int .i64 16] w fun e w' => inner16 (rd16 0 t.data.toList) e ∧ w' = Lib.bytesWorld w 5 t := by
 have hemp : t.toList.isEmpty = false := by
  rw [← decide_eq_emptyBytes]
  exact decide_eq_false (fun h => hne (by rw [h];rfl))
 have hcv := Lib.run_convert_string_bytes (P := Tryz.prog) w 9 85 5 t (u := .string) Tryz.underlying9 Tryz.underlying85 Tryz.underlying5
 have hB : ∀ j,j < t.size → (Lib.bytesWorld w 5 t).cell? ⟨w.heap.size,j,none⟩ = some (.int .u8 (t.data.toList.getD j 0).toNat) := fun j hj => Lib.bytesWorld_cell w 5 t j hj
 obtain ⟨W1,hW1⟩ : ∃ W1,W1 = Lib.bytesWorld w 5 t := ⟨_,rfl⟩
 rw [← hW1] at hcv hB ⊢
 clear hW1
 obtain ⟨bs,hL⟩ : ∃ bs,bs = t.data.toList := ⟨_,rfl⟩
 have hLn : bs.length = t.size := by rw [hL];simp
 rw [← hL] at hB ⊢
 clear hL
 have HLN := Lib.hid hLn
 have HB := Lib.hid hB
 clear hLn hB
 have hmv : IntKind.u64.wrap (IntKind.u64.wrap 65536 - 1) = 65535 := by
  rw [IntKind.wrap_u64,IntKind.wrap_u64]
  decide
 go_enter Tryz.func242,Tryz.ntmps242
 go_wp2
 go_loop [12,13,101] (fun vu vn vi => ∃ (k acc : Nat) (a : Int),vu = .bool false ∧ vn = .int .u64 a ∧ vi = .int .i64 k ∧ k ≤ t.size ∧ Hid (a = (acc : Int) ∧ acc ≤ 65535 ∧ rd16 0 bs = rd16 acc (bs.drop k)))
  (fun _ _ vi => t.size - (intOf vi).toNat)
 case atStart => exact ⟨0,0,0,rfl,rfl,rfl,by omega,rfl,by omega,rfl⟩
 case round =>
  obtain ⟨k,acc,a,rfl,rfl,rfl,hk,hh⟩ := hrel
  obtain ⟨ha,hacc,hdec⟩ := hh.out
  clear hh
  have a0 : 0 ≤ a := by omega
  have a1 : a ≤ 65535 := by omega
  by_cases hkn : k < t.size
  ·have hc := HB.out k hkn
   have hlk : k < bs.length := by rw [HLN.out];exact hkn
   have hdrop : bs.drop k = bs[k]'hlk :: bs.drop (k + 1) := List.drop_eq_getElem_cons hlk
   have hget : bs.getD k 0 = bs[k]'hlk := by simp [List.getD,List.getElem?_eq_getElem hlk]
   rw [hdrop] at hdec
   rw [hget] at hc
   generalize bs[k]'hlk = c at hc hdec
   have hc256 : c.toNat < 256 := c.toNat_lt
   clear hdrop hget hlk
   obtain ⟨x,hx⟩ : ∃ x : Int,(c.toNat : Int) = x := ⟨_,rfl⟩
   have hx0 : 0 ≤ x := by omega
   have hx1 : x ≤ 255 := by omega
   obtain ⟨y,hy⟩ : ∃ y : Nat,c.toNat ||| 32 = y := ⟨_,rfl⟩
   have hy2 : bits .or .u8 x 32 = (y : Int) := by
    rw [← hx,show (32 : Int) = ((32 : Nat) : Int) from rfl,u8_or_nat c.toNat 32 (by omega) (by omega),hy]
   have hyl : y < 256 := by rw [← hy];exact Nat.or_lt_two_pow (n := 8) (by omega) (by omega)
   have HY2 := Lib.hid hy2
   rw [hx] at hc
   by_cases hdig : 48 ≤ c.toNat ∧ c.toNat ≤ 57
   ·have hg : hexg c = c.toNat - 48 := by unfold hexg;rw [if_pos hdig]
    have i0 : 48 ≤ x := by omega
    have i1 : x ≤ 57 := by omega
    have e95 : (x == 95) = false := by rw [beq_eq_false_iff_ne];omega
    clear hy2
    by_cases hov : 65535 < acc * 16 + hexg c
    ·have hF := rd16_over (r := bs.drop (k + 1)) hov
     rw [hF] at hdec
     have iov : 65535 < a * 16 + (x - 48) := by omega
     have HD := Lib.hid hdec
     clear hacc hF hov ha hdec hdig hg hx hy
     go_wp2
     go_ret2
     exact ⟨by rw [HD.out];exact .inr rfl,rfl⟩
    ·have hF := rd16_ok (acc := acc) (r := bs.drop (k + 1)) (by omega : hexg c ≠ 16) hov
     have HN : Hid (a * 16 + (x - 48) = ((acc * 16 + hexg c : Nat) : Int) ∧ acc * 16 + hexg c ≤ 65535 ∧ rd16 0 bs = rd16 (acc * 16 + hexg c) (bs.drop (k + 1))) := Lib.hid ⟨by omega,by omega,hdec.trans hF⟩
     have iov : a * 16 + (x - 48) ≤ 65535 := by omega
     clear hacc hF hov ha hdec hdig hg hx hy
     go_wp2
     go_round
     case rel => exact ⟨k + 1,acc * 16 + hexg c,a * 16 + (x - 48),rfl,rfl,by go_num,by omega,HN⟩
     case measure => simp [intOf];omega
   ·by_cases hlow : 97 ≤ y ∧ y ≤ 102
    ·have hg : hexg c = y - 87 := by unfold hexg;rw [if_neg hdig,hy,if_pos hlow]
     have i95 : x ≠ 95 := by
      intro h
      have : c.toNat = 95 := by omega
      rw [this] at hy
      have : y = 127 := by rw [← hy];decide
      omega
     have e95 : (x == 95) = false := by rw [beq_eq_false_iff_ne];exact i95
     have idig : ¬ (48 ≤ x ∧ x ≤ 57) := by omega
     have d0 : decide ((97 : Int) ≤ (y : Int)) = true := decide_eq_true (by omega)
     have d1 : decide ((y : Int) ≤ 122) = true := decide_eq_true (by omega)
     have j0 : (97 : Int) ≤ (y : Int) := by omega
     have j1 : (y : Int) ≤ 102 := by omega
     clear hy2
     have i48 : x < 48 ∨ 57 < x := by omega
     by_cases hov : 65535 < acc * 16 + hexg c
     ·have hF := rd16_over (r := bs.drop (k + 1)) hov
      rw [hF] at hdec
      have iov : 65535 < a * 16 + ((y : Int) - 97 + 10) := by omega
      have HD := Lib.hid hdec
      clear hacc hF hov ha hdec hdig hg hx hy idig hlow i95
      rcases i48 with i48 | i48
      all_goals
       go_wp2_with (go_at_call 264;refine (lower_as HY2.out _).mono ?_;rintro e w' ⟨rfl,rfl⟩)
       go_ret2
       exact ⟨by rw [HD.out];exact .inr rfl,rfl⟩
     ·have hF := rd16_ok (acc := acc) (r := bs.drop (k + 1)) (by omega : hexg c ≠ 16) hov
      have HN : Hid (a * 16 + ((y : Int) - 97 + 10) = ((acc * 16 + hexg c : Nat) : Int) ∧ acc * 16 + hexg c ≤ 65535 ∧ rd16 0 bs = rd16 (acc * 16 + hexg c) (bs.drop (k + 1))) := Lib.hid ⟨by omega,by omega,hdec.trans hF⟩
      have iov : a * 16 + ((y : Int) - 97 + 10) ≤ 65535 := by omega
      clear hacc hF hov ha hdec hdig hg hx hy idig hlow i95
      rcases i48 with i48 | i48
      all_goals
       go_wp2_with (go_at_call 264;refine (lower_as HY2.out _).mono ?_;rintro e w' ⟨rfl,rfl⟩)
       go_round
       case rel => exact ⟨k + 1,acc * 16 + hexg c,a * 16 + ((y : Int) - 97 + 10),rfl,rfl,by go_num,by omega,HN⟩
       case measure => simp [intOf];omega
    ·have hg : hexg c = 16 := by unfold hexg;rw [if_neg hdig,hy,if_neg hlow]
     have hF := rd16_no (acc := acc) (r := bs.drop (k + 1)) hg
     rw [hF] at hdec
     have HD := Lib.hid hdec
     have i48 : x < 48 ∨ 57 < x := by omega
     have iy : y < 97 ∨ (102 < y ∧ y ≤ 122) ∨ 122 < y := by omega
     clear hacc hF ha hdec hdig hg hy hlow hx hy2
     have i95 : x = 95 ∨ x ≠ 95 := by omega
     have e95 : (x == 95) = true ∨ (x == 95) = false := by cases (x == 95) <;> simp
     clear i95
     rcases iy with iy | ⟨iy,iz⟩ | iy
     ·have d0 : decide ((97 : Int) ≤ (y : Int)) = false := decide_eq_false (by omega)
      rcases e95 with e95 | e95 <;> rcases i48 with i48 | i48
      all_goals
       go_wp2_with (go_at_call 264;refine (lower_as HY2.out _).mono ?_;rintro e w' ⟨rfl,rfl⟩)
       go_ret2
       exact ⟨by rw [HD.out];exact .inl rfl,rfl⟩
     ·have d0 : decide ((97 : Int) ≤ (y : Int)) = true := decide_eq_true (by omega)
      have d1 : decide ((y : Int) ≤ 122) = true := decide_eq_true (by omega)
      have j0 : (16 : Int) ≤ (y : Int) - 97 + 10 := by omega
      have j1 : (y : Int) ≤ 122 := by omega
      rcases e95 with e95 | e95 <;> rcases i48 with i48 | i48
      all_goals
       go_wp2_with (go_at_call 264;refine (lower_as HY2.out _).mono ?_;rintro e w' ⟨rfl,rfl⟩)
       go_ret2
       exact ⟨by rw [HD.out];exact .inl rfl,rfl⟩
     ·have d0 : decide ((97 : Int) ≤ (y : Int)) = true := decide_eq_true (by omega)
      have d1 : decide ((y : Int) ≤ 122) = false := decide_eq_false (by omega)
      rcases e95 with e95 | e95 <;> rcases i48 with i48 | i48
      all_goals
       go_wp2_with (go_at_call 264;refine (lower_as HY2.out _).mono ?_;rintro e w' ⟨rfl,rfl⟩)
       go_ret2
       exact ⟨by rw [HD.out];exact .inl rfl,rfl⟩
  ·obtain rfl : k = t.size := by omega
   have hF : rd16 acc (bs.drop t.size) = some acc := by rw [List.drop_eq_nil_of_le (by rw [HLN.out];omega)];rfl
   rw [hF] at hdec
   subst ha
   have HD := Lib.hid hdec
   clear hacc hF a0 a1 hdec
   go_wp2
   go_ret2
   exact ⟨by rw [HD.out];rfl,rfl⟩
end Go.Proofs.YtpkmekdpmkfcdaaGreatDoor.En
namespace Go.Proofs.YtpkmekdpmkfcdaaGreatDoor.En
open Go.RowKit Go.Proofs.YtpkmekdpmkfcdaaGreatDoor.Wd Go.Proofs.YtpkmekdpmkfcdaaGreatDoor.Px
/-- what strconv.ParseUint answers: a number and no error, or some number and an error -/
def pu (o : Option Nat) (e : Ending) : Prop := match o with
 | some u => e = .returned (.tuple #[.int .u64 (u : Int),.nilIface])
 | none => ∃ (u : Int) (N : Nat),e = .returned (.tuple #[.int .u64 u,.iface 316 (.pointer (some ⟨N,0,none⟩))])
theorem inner16_all (t : ByteArray) (hmax : t.size ≤ 140737488355328) (w : World) :
  Calls Tryz.prog 242 #[.string t,.int .i64 16,.int .i64 16] w fun e w' => inner16 (v16 t.data.toList) e ∧ Below w.heap.size w w' := by
 by_cases h0 : t.size = 0
 ·have ht : t = ⟨#[]⟩ := by
   apply ByteArray.ext
   exact Array.eq_empty_of_size_eq_zero h0
  subst ht
  refine (AnyPu.internal_strconv_ParseUint_empty { Tryz.laysPu14 with } 16 16 w).mono ?_
  rintro e w' ⟨rfl,rfl⟩
  exact ⟨.inl rfl,Below.refl _ _⟩
 ·have hne : t.data.toList ≠ [] := fun h => h0 (by
   have : t.data.toList.length = 0 := by rw [h];rfl
   simpa using this)
  refine (inner16_any t h0 hmax w).mono ?_
  rintro e w' ⟨he,rfl⟩
  refine ⟨?_,Lib.bytesWorld_below _ _ _⟩
  unfold v16
  rw [if_neg hne]
  exact he
theorem toerr2 (s : ByteArray) (base bits : Int) (w : World) (hE : Env w) (hs : s.size ≤ 140737488355328) :
  Calls Tryz.prog 243 #[.string ⟨#[80,97,114,115,101,85,105,110,116]⟩,.string s,.int .i64 base,.int .i64 bits,.iface 314 (.int .i64 2)] w fun e w' => (∃ N,e = .returned (.iface 316 (.pointer (some ⟨N,0,none⟩)))) ∧ Below w.heap.size w w' := by
 obtain ⟨tp,p,hv⟩ := hE.syn
 refine Calls.mono (P := Tryz.prog) (f := 243) (AnyPu.strconv_toError_syntax { Tryz.laysPu14 with } ⟨#[80,97,114,115,101,85,105,110,116]⟩ s base bits (.iface tp p) w (by omega) (by have h0 := World.var?_cell Tryz.laysPu14.m0 hv 0;simpa using h0) (.inr ⟨tp,p,rfl⟩)) ?_
 rintro e w' ⟨N,rfl,-,-,hb⟩
 exact ⟨⟨N,rfl⟩,hb⟩
theorem toerr1 (s : ByteArray) (base bits : Int) (w : World) (hE : Env w) (hs : s.size ≤ 140737488355328) :
  Calls Tryz.prog 243 #[.string ⟨#[80,97,114,115,101,85,105,110,116]⟩,.string s,.int .i64 base,.int .i64 bits,.iface 314 (.int .i64 1)] w fun e w' => (∃ N,e = .returned (.iface 316 (.pointer (some ⟨N,0,none⟩)))) ∧ Below w.heap.size w w' := by
 obtain ⟨tp,p,hv⟩ := hE.ran
 refine Calls.mono (P := Tryz.prog) (f := 243) (AnyPu.strconv_toError_range { Tryz.laysPu14 with } ⟨#[80,97,114,115,101,85,105,110,116]⟩ s base bits (.iface tp p) w (by omega) (by have h0 := World.var?_cell Tryz.laysPu14.m1 hv 0;simpa using h0) (.inr ⟨tp,p,rfl⟩)) ?_
 rintro e w' ⟨N,rfl,-,-,hb⟩
 exact ⟨⟨N,rfl⟩,hb⟩
set_option maxRecDepth 20000 in
set_option maxHeartbeats 2000000 in
theorem parse16_any (s : ByteArray) (hs : s.size ≤ 140737488355328) (w : World) (hE : Env w) :
  Calls Tryz.prog 163 #[.string s,.int .i64 16,.int .i64 16] w fun e w' => pu (v16 s.data.toList) e ∧ Below w.heap.size w w' := by
 obtain ⟨o,ho⟩ : ∃ o,v16 s.data.toList = o := ⟨_,rfl⟩
 have HO := Lib.hid ho
 rw [ho]
 clear ho
 go_enter Tryz.func163,Tryz.ntmps163
 go_wp2_with fail
 refine (inner16_all s hs w).mono ?_
 rintro e w1 ⟨he,hb⟩
 rw [HO.out] at he
 cases o with
 | some u =>
  obtain rfl := he
  go_wp2
  go_ret2
  exact ⟨rfl,hb⟩
 | none =>
  have hE1 := hE.on hb
  rcases he with rfl | rfl
  ·go_wp2_with fail
   refine (toerr2 s 16 16 _ hE1 hs).mono ?_
   rintro e w2 ⟨⟨N,rfl⟩,hb2⟩
   have hb3 := hb.trans (hb2.mono hb.size)
   go_wp2
   go_ret2
   exact ⟨⟨_,_,rfl⟩,hb3⟩
  ·go_wp2_with fail
   refine (toerr1 s 16 16 _ hE1 hs).mono ?_
   rintro e w2 ⟨⟨N,rfl⟩,hb2⟩
   have hb3 := hb.trans (hb2.mono hb.size)
   go_wp2
   go_ret2
   exact ⟨⟨_,_,rfl⟩,hb3⟩
/-- what a row of decimal digits spells, if it is less than 2^8 -/
def v8 (l : List UInt8) : Option Nat := match Lib.parseUintB 8 l with
 | .ok u => some u
 | _ => none
theorem parse8_any (s : ByteArray) (hs : s.size ≤ 140737488355328) (w : World) (hE : Env w) :
  Calls Tryz.prog 163 #[.string s,.int .i64 10,.int .i64 8] w fun e w' => pu (v8 s.data.toList) e ∧ Below w.heap.size w w' := by
 unfold v8
 cases h : Lib.parseUintB 8 s.data.toList
 ·rename_i u
  refine (Tryz.strconv_ParseUint_10_at8_ok s (by omega) u h w).mono ?_
  rintro e w' ⟨rfl,hw⟩
  refine ⟨rfl,?_⟩
  rcases hw with rfl | rfl
  ·exact Below.refl _ _
  ·exact Lib.bytesWorld_below _ _ _
 ·obtain ⟨tp,p,hv⟩ := hE.syn
  refine Calls.mono (P := Tryz.prog) (f := 163) (Go.Proofs.Any.strconv_ParseUint_10_at8_syntax_var Tryz.laysPu14 s (by omega) h tp p w hv) ?_
  rintro e w' ⟨N,rfl,-,-,hb⟩
  exact ⟨⟨_,_,rfl⟩,hb⟩
 ·obtain ⟨tp,p,hv⟩ := hE.ran
  refine Calls.mono (P := Tryz.prog) (f := 163) (Go.Proofs.Any.strconv_ParseUint_10_at8_range_var Tryz.laysPu14 s (by omega) h tp p w hv) ?_
  rintro e w' ⟨N,rfl,-,-,hb⟩
  exact ⟨⟨_,_,rfl⟩,hb⟩
end Go.Proofs.YtpkmekdpmkfcdaaGreatDoor.En
