/- An address's text, by the program: what the walks have shown, in one word. Contract: a prefix's text, by the program. -/
import Derived.Test.YtpkmekdpmkfcdaaGreatDoorPrefP
namespace Go.Proofs.YtpkmekdpmkfcdaaGreatDoor.Pf
open Go.RowKit Go.Proofs.YtpkmekdpmkfcdaaGreatDoor.Wd Go.Proofs.YtpkmekdpmkfcdaaGreatDoor.Px Go.Proofs.YtpkmekdpmkfcdaaGreatDoor.By Go.Proofs.YtpkmekdpmkfcdaaGreatDoor.En Go.Proofs.YtpkmekdpmkfcdaaGreatDoor.Pl
/-- an address's text -/
def prT (f : Int) (hi lo : Nat) : List UInt8 := if vA f hi lo = true then prA f (num f hi lo) else []
theorem prT_yes {f : Int} {hi lo : Nat} (h : vA f hi lo = true) : prT f hi lo = prA f (num f hi lo) := by unfold prT;rw [if_pos h]
theorem prT_no {f : Int} {hi lo : Nat} (h : vA f hi lo = false) : prT f hi lo = [] := by unfold prT;rw [if_neg (by simp [h])]
theorem be_two (k n : Nat) : be (k + 2) n = be k (n / 65536) ++ [UInt8.ofNat (n / 256 % 256),UInt8.ofNat (n % 256)] := by
 rw [be_succ,be_succ,Nat.div_div_eq_div_mul]
 simp
theorem be_add (a : Nat) : ∀ (b n : Nat),be (a + b) n = be a (n / 256 ^ b) ++ be b n := by
 intro b
 induction b with
 | zero => intro n;simp [be,dgs]
 | succ b ih =>
  intro n
  rw [← Nat.add_assoc,be_succ,be_succ,ih,Nat.div_div_eq_div_mul,Nat.pow_succ,Nat.mul_comm,List.append_assoc]
theorem hexs_snoc : ∀ (l : List UInt8) (m : Nat) (a b : UInt8),l.length = 2 * m → hexs (l ++ [a,b]) = hexs l ++ [hex4 (a.toNat * 256 + b.toNat)]
 | [],m,a,b,_ => by simp [hexs]
 | [x],m,a,b,h => by simp at h;omega
 | x :: y :: r,m,a,b,h => by
  simp only [List.length_cons] at h
  simp only [List.cons_append,hexs]
  rw [hexs_snoc r (m - 1) a b (by omega)]
theorem hexs_be (k : Nat) : ∀ n,hexs (be (2 * k) n) = (dgs 65536 k n).map hex4 := by
 induction k with
 | zero => intro n;rfl
 | succ k ih =>
  intro n
  rw [show 2 * (k + 1) = 2 * k + 2 by omega,be_two,hexs_snoc _ k _ _ (be_len _ _),ih,dgs,List.map_append,List.map_singleton]
  congr 3
  simp
  omega
theorem decs_be (k n : Nat) : decs (be k n) = (dgs 256 k n).map Lib.decDigits := by
 rw [← be_nat,List.map_map]
 rfl
theorem prT_dec (hi lo : Nat) : join 46 (decs (paB 4 hi lo)) = prT 4 hi lo := by
 cases hv : vA 4 hi lo with
 | false => rw [paB_no hv,prT_no hv];rfl
 | true =>
  rcases (vA_iff 4 hi lo).1 hv with h | ⟨-,rfl,h⟩
  ·omega
  ·rw [paB_4 h,prT_yes hv,decs_be,show num 4 0 lo = lo from rfl,prA_4 lo h]
theorem num6_lt {hi lo : Nat} (hh : hi < 18446744073709551616) (hl : lo < 18446744073709551616) : num 6 hi lo < 340282366920938463463374607431768211456 := by
 simp [num];omega
theorem num6_be {hi lo : Nat} (hl : lo < 18446744073709551616) : be 16 (num 6 hi lo) = be 8 hi ++ be 8 lo := by
 have e : num 6 hi lo = hi * 18446744073709551616 + lo := by simp [num]
 have h8 : ∀ k n m,n % 256 ^ k = m % 256 ^ k → be k n = be k m := by
  intro k
  induction k with
  | zero => intro n m _;rfl
  | succ k ih =>
   intro n m h
   rw [be_succ,be_succ]
   rw [Nat.pow_succ,Nat.mul_comm] at h
   have h1 : n % 256 = m % 256 := by
    have := congrArg (· % 256) h
    simpa [Nat.mod_mul_right_mod] using this
   have h2 : n / 256 % 256 ^ k = m / 256 % 256 ^ k := by
    have := congrArg (· / 256) h
    simpa [Nat.mod_mul_right_div_self] using this
   rw [h1,ih _ _ h2]
 rw [show (16 : Nat) = 8 + 8 from rfl,be_add,e]
 congr 1
 ·congr 1
  rw [show (256 : Nat) ^ 8 = 18446744073709551616 from rfl];omega
 ·apply h8
  rw [show (256 : Nat) ^ 8 = 18446744073709551616 from rfl];omega
theorem prT_hex {f : Int} (hf : f ≠ 4) {hi lo : Nat} (hh : hi < 18446744073709551616) (hl : lo < 18446744073709551616) : join 58 (hexs (paB f hi lo)) = prT f hi lo := by
 cases hv : vA f hi lo with
 | false => rw [paB_no hv,prT_no hv];rfl
 | true =>
  rcases (vA_iff f hi lo).1 hv with rfl | ⟨rfl,-⟩
  ·rw [paB_6,prT_yes hv,← num6_be hl,show (16 : Nat) = 2 * 8 from rfl,hexs_be,prA_6 _ (num6_lt hh hl)]
  ·exact absurd rfl hf
theorem paB_even {f : Int} (hf : f ≠ 4) (hi lo : Nat) : ∃ m,(paB f hi lo).length = 2 * m ∧ m ≤ 8 := by
 cases hv : vA f hi lo with
 | false => exact ⟨0,by rw [paB_no hv];rfl,by omega⟩
 | true =>
  rcases (vA_iff f hi lo).1 hv with rfl | ⟨rfl,-⟩
  ·exact ⟨8,by rw [paB_6,List.length_append,be_len,be_len],by omega⟩
  ·exact absurd rfl hf
theorem printaddr_any (f : Int) (hi lo : Nat) (w : World) (hE : Env w) (hh : hi < 18446744073709551616) (hl : lo < 18446744073709551616) :
  Calls Tryz.prog 158 #[.agg #[.int .i64 f,.int .u64 hi,.int .u64 lo]] w fun e w' => e = .returned (strc (prT f hi lo)) ∧ Below w.heap.size w w' := by
 by_cases hf : f = 4
 ·subst hf
  rw [← prT_dec]
  exact printaddr_dec hi lo w hE hh hl
 ·rw [← prT_hex hf hh hl]
  obtain ⟨m,hm,hm8⟩ := paB_even hf hi lo
  exact printaddr_hex f (by simpa using hf) hi lo m w hh hl (Lib.hid hm) hm8
theorem prT_len (f : Int) (hi lo : Nat) : (prT f hi lo).length ≤ 39 := by
 unfold prT
 split
 ·exact prA_len _ _
 ·simp
end Go.Proofs.YtpkmekdpmkfcdaaGreatDoor.Pf
namespace Go.Proofs.YtpkmekdpmkfcdaaGreatDoor.Pf
open Go.RowKit Go.Proofs.YtpkmekdpmkfcdaaGreatDoor.Wd Go.Proofs.YtpkmekdpmkfcdaaGreatDoor.Px Go.Proofs.YtpkmekdpmkfcdaaGreatDoor.By Go.Proofs.YtpkmekdpmkfcdaaGreatDoor.En Go.Proofs.YtpkmekdpmkfcdaaGreatDoor.Pl
theorem str_cat (a b : List UInt8) : (⟨a.toArray⟩ : ByteArray) ++ ⟨b.toArray⟩ = ⟨(a ++ b).toArray⟩ := by
 apply ByteArray.ext
 rw [ByteArray.data_append]
 simp
theorem ret_str {a b : ByteArray} (h : a = b) : Ending.returned (.string a) = .returned (.string b) := by rw [h]
/-- a prefix's text -/
def pT (f : Int) (hi lo : Nat) (b : Int) : List UInt8 := if vP f hi lo b = true then prT f hi lo ++ 47 :: Lib.decDigits b.toNat else []
theorem pT_yes {f : Int} {hi lo : Nat} {b : Int} (h : vP f hi lo b = true) : pT f hi lo b = prT f hi lo ++ 47 :: Lib.decDigits b.toNat := by unfold pT;rw [if_pos h]
theorem pT_no {f : Int} {hi lo : Nat} {b : Int} (h : vP f hi lo b = false) : pT f hi lo b = [] := by unfold pT;rw [if_neg (by simp [h])]
theorem print_no (f : Int) (hi lo : Nat) (b : Int) (w : World) (hh : hi < 18446744073709551616) (hl : lo < 18446744073709551616) (HP : Hid (vP f hi lo b = false)) :
  Calls Tryz.prog 66 #[.agg #[.int .i64 f,.int .u64 hi,.int .u64 lo,.int .i64 b]] w fun e w' => e = .returned (.string ⟨#[]⟩) ∧ Below w.heap.size w w' := by
 have hbl := one w (.cells #[.int .i64 f,.int .u64 hi,.int .u64 lo,.int .i64 b] 90)
 go_enter Tryz.func66,Tryz.ntmps66
 go_wp2_with fail
 refine (vvalid_as HP _ hh hl).mono ?_
 rintro e w1 ⟨rfl,hb1⟩
 have hbl1 := hbl.trans (hb1.mono hbl.size)
 clear hbl hb1
 go_wp2
 go_ret
 exact ⟨rfl,hbl1⟩
theorem printaddr_as {f : Int} {hi lo : Nat} {t : List UInt8} (h : Hid (prT f hi lo = t)) (w : World) (hE : Env w) (hh : hi < 18446744073709551616) (hl : lo < 18446744073709551616) :
  Calls Tryz.prog 158 #[.agg #[.int .i64 f,.int .u64 hi,.int .u64 lo]] w fun e w' => e = .returned (.string ⟨t.toArray⟩) ∧ Below w.heap.size w w' := by
 have := printaddr_any f hi lo w hE hh hl
 rwa [h.out] at this
theorem itoa_as {n : Int} {t : List UInt8} (h : Hid (Lib.decDigits n.toNat = t)) (w : World) (hE : Env w) (h0 : 0 ≤ n) (h1 : n ≤ 9223372036854775807) :
  Calls Tryz.prog 55 #[.int .i64 n] w fun e w' => e = .returned (.string ⟨t.toArray⟩) ∧ Below w.heap.size w w' := by
 have := itoa_any n w h0 h1 hE
 rwa [h.out] at this
set_option maxRecDepth 20000 in
set_option maxHeartbeats 2000000 in
theorem print_yes (f : Int) (hi lo b : Nat) (w : World) (hE : Env w) (hh : hi < 18446744073709551616) (hl : lo < 18446744073709551616) (hb : b ≤ 128) (HP : Hid (vP f hi lo b = true)) (t u : List UInt8) (HT : Hid (prT f hi lo = t)) (HU : Hid (Lib.decDigits (b : Int).toNat = u)) (ht : t.length ≤ 39) (hu : u.length ≤ 3) :
  Calls Tryz.prog 66 #[.agg #[.int .i64 f,.int .u64 hi,.int .u64 lo,.int .i64 b]] w fun e w' => e = .returned (.string ⟨(t ++ 47 :: u).toArray⟩) ∧ Below w.heap.size w w' := by
 have hp := pb_new w f hi lo b 90
 have hbl := one w (.cells #[.int .i64 f,.int .u64 hi,.int .u64 lo,.int .i64 b] 90)
 go_enter Tryz.func66,Tryz.ntmps66
 go_wp2_with fail
 refine (vvalid_as HP _ hh hl).mono ?_
 rintro e w1 ⟨rfl,hb1⟩
 have hbl1 := hbl.trans (hb1.mono hbl.size)
 have hp1 := hp.on hb1
 have hE1 := hE.on hbl1
 clear hbl hp hb1
 have e0 := after_cell hp1.c0
 have e1 := after_cell hp1.c1
 have e2 := after_cell hp1.c2
 have e3 := after_cell hp1.c3
 clear hp1
 have hb0 : (0 : Int) ≤ (b : Int) := by omega
 have hb9 : (b : Int) ≤ 9223372036854775807 := by omega
 go_upto_region 3 with fail
 refine wp_region_after (by kernel_rfl) (by kernel_rfl) ?_
 repeat (go_big_quiet_step ((first
  | (go_at_call 158;exact after_of (printaddr_as HT _ (hE1.on (After.b _)) hh hl))
  | (go_at_call 55;exact after_of (itoa_as HU _ (hE1.on (After.b _)) hb0 hb9)))))
 refine wpQuiet_nil ?_
 rintro _ ⟨x,rfl⟩
 have hx := x.b
 clear e0 e1 e2 e3
 go_wp2
 go_ret
 refine ⟨ret_str ?_,hbl1.trans (hx.mono hbl1.size)⟩
 simp only [str_cat,List.append_assoc,List.cons_append,List.nil_append]
theorem print_any (f : Int) (hi lo : Nat) (b : Int) (w : World) (hE : Env w) (hh : hi < 18446744073709551616) (hl : lo < 18446744073709551616) :
  Calls Tryz.prog 66 #[.agg #[.int .i64 f,.int .u64 hi,.int .u64 lo,.int .i64 b]] w fun e w' => e = .returned (strc (pT f hi lo b)) ∧ Below w.heap.size w w' := by
 cases hv : vP f hi lo b with
 | false => rw [pT_no hv];exact print_no f hi lo b w hh hl (Lib.hid hv)
 | true =>
  obtain ⟨hvA,hb0,hbw,-⟩ := (vP_iff f hi lo b).1 hv
  obtain ⟨c,rfl⟩ : ∃ c : Nat,b = c := ⟨b.toNat,by omega⟩
  have hw := wid_le f
  rw [pT_yes hv]
  exact print_yes f hi lo c w hE hh hl (by omega) (Lib.hid hv) _ _ (Lib.hid rfl) (Lib.hid rfl) (prT_len f hi lo) (decDigits_len_le 3 _ (by omega) (by omega))
theorem pT_len (f : Int) (hi lo : Nat) (b : Int) : (pT f hi lo b).length ≤ 43 := by
 unfold pT
 split
 ·rename_i h
  obtain ⟨-,hb0,hbw,-⟩ := (vP_iff f hi lo b).1 h
  have hw := wid_le f
  have h1 := prT_len f hi lo
  have h2 := decDigits_len_le 3 b.toNat (by omega) (by omega)
  simp;omega
 ·simp
end Go.Proofs.YtpkmekdpmkfcdaaGreatDoor.Pf
