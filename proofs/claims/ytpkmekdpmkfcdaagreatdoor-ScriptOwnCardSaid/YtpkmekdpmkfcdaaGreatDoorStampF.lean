/- Contracts: a stamp's text, by the program. -/
import Derived.Test.YtpkmekdpmkfcdaaGreatDoorStampA
import Derived.Test.YtpkmekdpmkfcdaaGreatDoorEnv
import Derived.Lib.Hide
namespace Go.Proofs.YtpkmekdpmkfcdaaGreatDoor.St
open Go.RowKit Go.Proofs.YtpkmekdpmkfcdaaGreatDoor.Wd Go.Proofs.YtpkmekdpmkfcdaaGreatDoor.Pl Go.Proofs.YtpkmekdpmkfcdaaGreatDoor.En
theorem pad_cons (m : List UInt8) (h : m.length < 9) : padTo 9 (48 :: m) = padTo 9 m := by
 unfold padTo
 rw [List.length_cons,show 9 - m.length = 9 - (m.length + 1) + 1 by omega,List.replicate_succ']
 simp
theorem pad_full (m : List UInt8) (h : m.length = 9) : padTo 9 m = m := by
 unfold padTo;rw [h];rfl
theorem str_cat (a b : List UInt8) : (⟨a.toArray⟩ ++ ⟨b.toArray⟩ : ByteArray) = ⟨(a ++ b).toArray⟩ := ByteArray.mk_append_mk a b
theorem ret_str {a b : ByteArray} (h : a = b) : Ending.returned (.string a) = .returned (.string b) := by rw [h]
theorem print_no (s n : Int) (w : World) (h0 : s ≤ 9223372036854775807) (hv : vld s n = false) :
  Calls Tryz.prog 218 #[.agg #[.int .i64 s,.int .i64 n]] w fun e w' => e = .returned (.string ⟨#[]⟩) ∧ Below w.heap.size w w' := by
 go_enter Tryz.func218,Tryz.ntmps218
 go_wp2_with fail
 refine (valid_any _ _ _ h0).mono ?_
 rintro e w1 ⟨rfl,hb⟩
 rw [hv]
 go_wp2
 go_ret
 exact ⟨rfl,((Below.refl _ w).alloc (Nat.le_refl _) _).trans (hb.mono (by simp))⟩
set_option maxHeartbeats 1000000 in
theorem print_yes (s n : Int) (w : World) (h1 : 0 ≤ s) (h0 : s ≤ 9223372036854775807) (h2 : 0 ≤ n) (h3 : n ≤ 999999999) (hE : Env w) :
  Calls Tryz.prog 218 #[.agg #[.int .i64 s,.int .i64 n]] w fun e w' => e = .returned (.string ⟨(prt s n).toArray⟩) ∧ Below w.heap.size w w' := by
 have hv : vld s n = true := by rw [vld_iff];omega
 go_enter Tryz.func218,Tryz.ntmps218
 go_wp2_with fail
 refine (valid_any _ _ _ h0).mono ?_
 rintro e w1 ⟨rfl,hb⟩
 rw [hv]
 have c0 := keepc hb (b := w.heap.size) (o := 0) (v := .int .i64 s) (by go_simp)
 have c1 := keepc hb (b := w.heap.size) (o := 1) (v := .int .i64 n) (by go_simp)
 have hbw : Below w.heap.size w w1 := ((Below.refl _ w).alloc (Nat.le_refl _) _).trans (hb.mono (by simp))
 have hE1 := hE.on hbw
 clear hb
 go_wp2_with fail
 refine (itoa_any n _ h2 (by omega) hE1).mono ?_
 rintro e w2 ⟨rfl,hb2⟩
 have d0 := keepc hb2 c0
 have hbw2 : Below w.heap.size w w2 := hbw.trans (hb2.mono hbw.size)
 have hE2 := hE1.on hb2
 clear c0 c1 hE1
 have hln : (Lib.decDigits n.toNat).length ≤ 9 := decDigits_len_le 9 _ (by omega) (by omega)
 go_wp2
 go_loop [3] (fun v => ∃ m : List UInt8,v = .string ⟨m.toArray⟩ ∧ m.length ≤ 9 ∧ Hid (padTo 9 m = padTo 9 (Lib.decDigits n.toNat))) (fun v => match v with | .string st => 9 - st.size | _ => 0)
 case atStart => exact ⟨_,rfl,hln,rfl⟩
 case round =>
  obtain ⟨m,rfl,hm,HM⟩ := hrel
  by_cases hlt : m.length < 9
  ·go_wp2
   go_round
   case rel => exact ⟨48 :: m,by rw [show (48 :: m) = [48] ++ m from rfl,← str_cat],by simp;omega,(pad_cons m hlt).trans HM.out⟩
   case measure =>
    have e1 : (⟨m.toArray⟩ : ByteArray).size = m.length := by show m.toArray.size = _;simp
    have e2 : (⟨#[48]⟩ : ByteArray).size = 1 := rfl
    simp [ByteArray.size_append,e1,e2];omega
  ·obtain ⟨hls,hls2⟩ : (m.length : Int) ≤ 9 ∧ m.length ≤ 9 := by omega
   have hld : (Lib.decDigits s.toNat).length ≤ 19 := decDigits_len_le 19 _ (by omega) (by omega)
   go_wp2_with fail
   refine (itoa_any s _ h1 h0 hE2).mono ?_
   rintro e w3 ⟨rfl,hb3⟩
   go_wp2
   go_ret
   refine ⟨ret_str ?_,hbw2.trans (hb3.mono hbw2.size)⟩
   have hm9 := pad_full m (by omega)
   rw [prt_of s n hv,← HM.out,hm9]
   simp only [str_cat,List.append_assoc,List.cons_append,List.nil_append]
end Go.Proofs.YtpkmekdpmkfcdaaGreatDoor.St
