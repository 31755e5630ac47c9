/- Contract: strings.Join over a row that the call owns; an address's text, family 4, by the program. Contract: an address's text, by the program. -/
import Derived.Test.YtpkmekdpmkfcdaaGreatDoorMC
import Derived.Test.YtpkmekdpmkfcdaaGreatDoorEnv
import Derived.Lib.Join
namespace Go.Proofs.YtpkmekdpmkfcdaaGreatDoor.Pf
open Go.RowKit Go.Proofs.YtpkmekdpmkfcdaaGreatDoor.Wd Go.Proofs.YtpkmekdpmkfcdaaGreatDoor.Px Go.Proofs.YtpkmekdpmkfcdaaGreatDoor.By Go.Proofs.YtpkmekdpmkfcdaaGreatDoor.En Go.Proofs.YtpkmekdpmkfcdaaGreatDoor.Pl
/-- a text as a cell -/
def strc (l : List UInt8) : Value := .string ⟨l.toArray⟩
theorem libjoin (s : UInt8) (l : List (List UInt8)) : Lib.join l [s] = join s l := by
 induction l with
 | nil => rfl
 | cons a r ih =>
  cases r with
  | nil => rw [Lib.join_one];rfl
  | cons b r => rw [Lib.join_cons,join,← ih,Lib.join_cons];simp [Lib.joinTail]
theorem join_own {w : World} {base n : Nat} {v : Value} (s : UInt8) (ls : List (List UInt8)) (hown : w.ownsRow base 9 1 v n (ls.map strc)) (hN : ls.length ≤ 140737488355328) (hlen : (join s ls).length ≤ 140737488355328) :
  Calls Tryz.prog 37 #[v,.string ⟨#[s]⟩] w fun e w' => e = .returned (strc (join s ls)) ∧ Below w.heap.size w w' := by
 have hn : ls.length = n := by have := hown.1;simpa using this
 subst hn
 rcases Nat.eq_zero_or_pos ls.length with h0 | h0
 ·obtain rfl : ls = [] := List.eq_nil_of_length_eq_zero h0
  obtain ⟨A,c,rfl⟩ := own_slice hown
  refine (Tryz.strings_Join_none A c ⟨#[s]⟩ w).mono ?_
  rintro e w' ⟨rfl,rfl⟩
  exact ⟨rfl,Below.refl _ _⟩
 ·obtain ⟨g,cap,rfl,-,hg⟩ := hown.form h0
  have hc := own_cap hown
  have hj : Lib.join ((ls.map fun l => (⟨l.toArray⟩ : ByteArray)).map (·.data.toList)) (⟨#[s]⟩ : ByteArray).data.toList = join s ls := by
   rw [← libjoin,List.map_map]
   congr 1
   conv => rhs;rw [← List.map_id ls]
   rfl
  have hJ := Tryz.strings_Join g 0 cap (ls.map fun l => (⟨l.toArray⟩ : ByteArray)) ⟨#[s]⟩ w (fun j x hx => by
   rw [Nat.zero_add]
   have := hown.cellAt j (by rw [List.getElem?_map] at hx;have := (List.getElem?_eq_some_iff.1 (Option.map_eq_some_iff.1 hx).choose_spec.1).1;omega)
   rw [this,List.getElem?_map]
   rw [List.getElem?_map,Option.map_eq_some_iff] at hx
   obtain ⟨y,hy,rfl⟩ := hx
   rw [hy]
   rfl) hg (by simpa using hN) (by simpa using hc.1) (by rw [hj];exact hlen)
  rw [hj,List.length_map] at hJ
  exact hJ
end Go.Proofs.YtpkmekdpmkfcdaaGreatDoor.Pf
namespace Go.Proofs.YtpkmekdpmkfcdaaGreatDoor.Pf
open Go.RowKit Go.Proofs.YtpkmekdpmkfcdaaGreatDoor.Wd Go.Proofs.YtpkmekdpmkfcdaaGreatDoor.Px Go.Proofs.YtpkmekdpmkfcdaaGreatDoor.By Go.Proofs.YtpkmekdpmkfcdaaGreatDoor.En Go.Proofs.YtpkmekdpmkfcdaaGreatDoor.Pl
theorem Tryz.infoS : (Tryz.prog.info? 9).map (fun i => (i.zero,i.size,i.bytes)) = some (some (.string ⟨#[]⟩),1,16) := by kernel_rfl
/-- decimal texts of bytes -/
def decs (bs : List UInt8) : List (List UInt8) := bs.map fun c => Lib.decDigits c.toNat
theorem decs_len (bs : List UInt8) : (decs bs).length = bs.length := by simp [decs]
theorem decs_at (bs : List UInt8) (k : Nat) (h : k < bs.length) : (decs bs)[k]'(by rw [decs_len];exact h) = Lib.decDigits bs[k].toNat := by simp [decs]
theorem join_decs (s : UInt8) (bs : List UInt8) (h : bs.length ≤ 16) : (join s (decs bs)).length ≤ 64 := by
 have := join_len s (decs bs) 3 (fun a ha => by
  unfold decs at ha
  obtain ⟨c,-,rfl⟩ := List.mem_map.1 ha
  exact decDigits_len_le 3 _ (by have := c.toNat_lt;omega) (by omega))
 rw [decs_len] at this
 omega
set_option maxRecDepth 20000 in
set_option maxHeartbeats 2000000 in
theorem printaddr_dec (hi lo : Nat) (w : World) (hE : Env w) (hh : hi < 18446744073709551616) (hl : lo < 18446744073709551616) :
  Calls Tryz.prog 158 #[.agg #[.int .i64 4,.int .u64 hi,.int .u64 lo]] w fun e w' => e = .returned (strc (join 46 (decs (paB 4 hi lo)))) ∧ Below w.heap.size w w' := by
 obtain ⟨i0,hi0,hz0,hz1,hz2⟩ := info_parts Tryz.infoS
 have ha := ab_new w 4 hi lo 88
 have hbl := one w (.cells #[.int .i64 4,.int .u64 hi,.int .u64 lo] 88)
 obtain ⟨bs,hbs⟩ : ∃ bs,paB 4 hi lo = bs := ⟨_,rfl⟩
 have hn : bs.length ≤ 16 := by rw [← hbs];exact paB_len _ _ _
 have HBS := Lib.hid hbs
 rw [hbs]
 clear hbs
 go_enter Tryz.func158,Tryz.ntmps158
 go_wp2_with fail
 refine (putaddr_any 4 hi lo _ hh hl).mono ?_
 rintro e w1 ⟨v1,rfl,hown1,hb1⟩
 rw [HBS.out] at hown1
 obtain ⟨A,c,rfl⟩ := own_slice hown1
 have hs1 := own_shows hown1
 have ha1 := ha.on hb1
 have hbl1 := hbl.trans (hb1.mono hbl.size)
 clear ha hbl hb1 hown1
 obtain ⟨a0,a1,a2⟩ := ha1
 go_wp2
 go_loopw [4,15] (fun v i wr => ∃ k : Nat,k ≤ bs.length ∧ i = .int .i64 k ∧ wr.ownsRow w1.heap.size 9 1 v k (((decs bs).map strc).take k) ∧ Below w1.heap.size w1 wr) (fun _ i _ => bs.length - (intOf i).toNat)
 case atStart => exact ⟨0,Nat.zero_le _,rfl,World.ownsRow_nil _ _ _ _,Below.refl _ _⟩
 case round =>
  obtain ⟨k,hk,rfl,hown,hbk⟩ := hrel
  have hEr := hE.on (hbl1.trans (hbk.mono hbl1.size))
  have hs := hs1.below hbk
  clear a0 a1 a2
  by_cases hlt : k < bs.length
  ·obtain ⟨b,o,rfl,hb2,hc⟩ := hs.at_ hlt
   have hsn := take_map strc (decs bs) k (by rw [decs_len];exact hlt)
   rw [decs_at bs k hlt] at hsn
   have HSN := Lib.hid hsn
   have i1 : (k : Int) < (bs.length : Int) := by omega
   obtain ⟨x,hx⟩ : ∃ x : Nat,bs[k].toNat = x := ⟨_,rfl⟩
   have hx2 : x < 256 := by rw [← hx];exact bs[k].toNat_lt
   unfold cel at hc
   rw [hx] at hc HSN
   clear hsn hx
   go_wp2_with fail
   refine (itoa_any (x : Int) _ (by omega) (by omega) hEr).mono ?_
   rintro e w2 ⟨rfl,hb3⟩
   rw [Int.toNat_natCast]
   have hown2 := own_on hown hb3
   have hbk2 := hbk.trans (hb3.mono hbk.size)
   clear hown hbk hs hb3 hEr hc hb2
   go_wp2_with (at_builtin;refine wpList_append_own _ rfl _ _ 37 rfl w1.heap.size 9 i0 (.string ⟨#[]⟩) 1 16 Tryz.underlying37 hi0 hz0 hz1 hz2 rfl (by decide) _ _ _ rfl (hown2.alloc _) ⟨w2.heap.size,0,none⟩ 1 1 [_] rfl rfl (cell_one_new _ _ _) ?c2 ?c3 ?c4 ?c5 ?_)
   case c2 => intro u hu;simp at hu;subst hu;rfl
   case c3 => unfold maxLen;omega
   case c4 => omega
   case c5 => have := hbk2.size;simp;omega
   intro v' w3 hown' hgrow _
   have hbk3 := (hbk2.alloc hbk2.size _).grown hgrow (by have := hbk2.size;simp;omega) (fun j hj => (hown2.lt j hj).1)
   clear hown2 hgrow hbk2
   go_wp2
   go_roundw
   case rel => exact ⟨k + 1,by omega,by go_num,by rw [HSN.out];exact hown',hbk3⟩
   case measure => simp [intOf];omega
  ·obtain rfl : k = bs.length := by omega
   rw [List.take_of_length_le (by simp [decs])] at hown
   go_wp2_with fail
   refine (join_own 46 (decs bs) hown (by rw [decs_len];omega) (Nat.le_trans (join_decs 46 bs hn) (by omega))).mono ?_
   rintro e w2 ⟨rfl,hb3⟩
   have hbk2 := hbl1.trans ((hbk.trans (hb3.mono hbk.size)).mono hbl1.size)
   unfold strc
   go_wp2
   go_ret
   exact ⟨rfl,hbk2⟩
end Go.Proofs.YtpkmekdpmkfcdaaGreatDoor.Pf
