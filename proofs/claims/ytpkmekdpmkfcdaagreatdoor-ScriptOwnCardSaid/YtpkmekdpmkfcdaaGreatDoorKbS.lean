/- Contracts: does a list of a book show its own marks? Contracts: do all lists of one kind, and what they were grown to, show their own marks? -/
import Derived.Test.YtpkmekdpmkfcdaaGreatDoorKbA
import Derived.Test.YtpkmekdpmkfcdaaGreatDoorSmI
import Derived.Deep.RegionLaw
import Derived.RegionTactic
import Derived.BigQuiet
import Derived.LoopN
namespace Go.Proofs.YtpkmekdpmkfcdaaGreatDoor.Kb
set_option linter.unusedVariables false
set_option linter.unusedSimpArgs false
open Go.RowKit Go.Proofs.YtpkmekdpmkfcdaaGreatDoor.Wd Go.Proofs.YtpkmekdpmkfcdaaGreatDoor.Px Go.Proofs.YtpkmekdpmkfcdaaGreatDoor.By Go.Proofs.YtpkmekdpmkfcdaaGreatDoor.Pf Go.Proofs.YtpkmekdpmkfcdaaGreatDoor.Sc
open Go.Proofs.YtpkmekdpmkfcdaaGreatDoor.Sr (own_same own_kind own_low CRow ORow OpO Opv Und fltC Lim LimO chC opC nl put14)
open Go.Proofs.YtpkmekdpmkfcdaaGreatDoor.Sr (change_same op_same ShOp ShC ShF none_c)
theorem shop_nil (w : World) (p id j : Nat) : ShOp w (omk p id j) nl nl nl nl [] :=
 ⟨⟨none,0,rfl,Nat.le_refl _,fun h => absurd h (by simp [omk,opp0])⟩,⟨none,0,rfl,Nat.le_refl _,rfl,fun h => absurd h (by simp [omk,opp0]),fun i c kv h => by simp [omk,opp0] at h⟩,⟨none,0,rfl,Nat.le_refl _,fun h => absurd h (by simp [omk,opp0])⟩,⟨none,0,rfl,Nat.le_refl _,fun h => absurd h (by simp [omk,opp0])⟩⟩
theorem same_C_as {p id j : Nat} {J M : Int} (hJ : Hid ((id : Int) = J)) (hM : Hid (((2 * j + p : Nat) : Int) = M)) (w : World) :
  Calls Tryz.prog 35 #[.agg #[.int .i64 J,.int .i64 M,.int .i64 0,.slice none 0 0,.int .i64 0,.int .u64 0,.int .u64 0,.int .i64 0],.agg #[.int .i64 J,.int .i64 M,.int .i64 0,.slice none 0 0,.int .i64 0,.int .u64 0,.int .u64 0,.int .i64 0]] w fun e w' => e = .returned (.bool true) ∧ Below w.heap.size w w' := by
 have := change_same (cmk p id j) (n := 0) (Lib.hid rfl) none none 0 0 w (by decide) (fun h => absurd h (by simp [cmk])) (fun h => absurd h (by simp [cmk]))
 rw [← hJ.out,← hM.out]
 exact this
theorem same_O_as {p id j : Nat} {J M : Int} (hJ : Hid ((id : Int) = J)) (hM : Hid (((2 * j + p : Nat) : Int) = M)) (w : World) :
  Calls Tryz.prog 81 #[.agg #[.int .i64 J,.int .i64 M,.int .i64 0,.int .i64 0,.int .i64 0,.int .i64 0,.slice none 0 0,.int .i64 0,.int .i64 0,.int .i64 0,.int .i64 0,.slice none 0 0,.slice none 0 0,.slice none 0 0],.agg #[.int .i64 J,.int .i64 M,.int .i64 0,.int .i64 0,.int .i64 0,.int .i64 0,.slice none 0 0,.int .i64 0,.int .i64 0,.int .i64 0,.int .i64 0,.slice none 0 0,.slice none 0 0,.slice none 0 0]] w fun e w' => e = .returned (.bool true) ∧ Below w.heap.size w w' := by
 have := op_same (omk p id j) nl nl nl nl [] nl nl nl nl [] w ⟨by simp [omk,opp0],by simp [omk,opp0],by simp [omk,opp0],by simp [omk,opp0],by simp [omk,opp0],fun c hc => by simp [omk,opp0] at hc⟩ (shop_nil w p id j) (shop_nil w p id j)
 rw [← hJ.out,← hM.out]
 exact this
theorem own_mark {κ : Kin} (hk : Okm κ) {W : World} {b p id n g c : Nat} (h : W.ownsRow b κ.e κ.s (.slice (some ⟨g,0,none⟩) n c) n (marks κ p id n)) {r : Nat} (hr : r < n) {i : Nat} (hi : i < κ.s) : W.cell? ⟨g,r * κ.s + i,none⟩ = (κ.mkf p id r)[i]? := by
 have h1 : r * κ.s + i < n * κ.s := by
  have := Nat.mul_le_mul_right κ.s (show r + 1 ≤ n from hr)
  rw [Nat.succ_mul] at this
  omega
 rw [h.cellAt _ h1,marks_get hk p id r i hi n hr]
theorem own_below {W W' : World} {b s n : Nat} {e : TypeId} {v : Value} {d : List Value} (h : W.ownsRow b e s v n d) (hb : Below W.heap.size W W') : W'.ownsRow b e s v n d := own_same h fun k hk => hb.block k (h.lt k hk).2
set_option maxRecDepth 20000 in
set_option maxHeartbeats 8000000 in
theorem show_B (B K p id n c : Nat) (A : Option Addr) (w : World) (hc : w.cell? ⟨K,1,none⟩ = some (.int .i64 (p : Int))) (hKw : K < w.heap.size) (hp : p ≤ 1) (hid : id ≤ 10000000000000) (hn : n ≤ 2000100) (hs : w.ownsRow B kB.e kB.s (.slice A n c) n (marks kB p id n)) :
  Calls Tryz.prog 197 #[.pointer (some ⟨K,0,none⟩),.slice A n c,.int .i64 (id : Int)] w fun e w' => e = .returned (.bool true) ∧ Below w.heap.size w w' := by
 obtain ⟨J,hJ⟩ : ∃ J : Int,(id : Int) = J := ⟨_,rfl⟩
 rw [hJ]
 have HJ := Lib.hid hJ
 have HS := Lib.hid hs
 clear hJ hs
 go_enter Tryz.func197,Tryz.ntmps197
 go_wp2
 go_loopw [7] (fun i wr => Below w.heap.size w wr ∧ ∃ k : Nat,k ≤ n ∧ i = .int .i64 (k : Int)) (fun i _ => n - (intOf i).toNat)
 case atStart => exact ⟨Below.refl _ _,0,Nat.zero_le _,rfl⟩
 case round =>
  obtain ⟨hbl,r,hr,rfl⟩ := hrel
  by_cases hrm : r < n
  ·have i1 : (r : Int) < (n : Int) := by omega
   have oxr := own_below HS.out hbl
   obtain ⟨g,kx,e0,-,-⟩ := oxr.form (by omega)
   injection e0 with e0 _ e1
   subst e0 e1
   obtain ⟨M,hM⟩ : ∃ M : Int,((bmk p (id) (r)).toNat : Int) = M := ⟨_,rfl⟩
   have HM := Lib.hid hM
   clear hM
   have hmk := mkB_eq HJ HM
   have cz0 : wr.cell? ⟨g,r,none⟩ = some (.int .u8 M) := (congrArg (fun q => wr.cell? ⟨g,q,none⟩) (Nat.mul_one r)).symm.trans <| (own_mark okB oxr hrm (i := 0) (by decide)).trans (by rw [hmk];rfl)
   have c1 := keepc hbl hc
   have hr2 : r ≤ 10000000000000 := by omega
   have hgw : g < wr.heap.size := (oxr.lt g rfl).2
   clear hmk oxr
   go_wp2_with fail
   refine (mark_B_as HJ HM _ c1 hp hid hr2).mono ?_
   rintro e w3 ⟨rfl,hb3⟩
   have hbl3 := hbl.trans (hb3.mono hbl.size)
   replace cz0 := keepc hb3 cz0
   clear hb3
   go_wp2
   go_roundw
   case rel => exact ⟨hbl3,r + 1,by omega,by go_num⟩
   case measure => simp [intOf];omega
  ·obtain rfl : r = n := by omega
   have i1 : ¬ (r : Int) < (r : Int) := by omega
   go_wp2
   go_ret
   exact ⟨rfl,hbl⟩
set_option maxRecDepth 20000 in
set_option maxHeartbeats 8000000 in
theorem show_L (B K p id n c : Nat) (A : Option Addr) (w : World) (hc : w.cell? ⟨K,1,none⟩ = some (.int .i64 (p : Int))) (hKw : K < w.heap.size) (hp : p ≤ 1) (hid : id ≤ 10000000000000) (hn : n ≤ 2000100) (hs : w.ownsRow B kL.e kL.s (.slice A n c) n (marks kL p id n)) :
  Calls Tryz.prog 198 #[.pointer (some ⟨K,0,none⟩),.slice A n c,.int .i64 (id : Int)] w fun e w' => e = .returned (.bool true) ∧ Below w.heap.size w w' := by
 obtain ⟨J,hJ⟩ : ∃ J : Int,(id : Int) = J := ⟨_,rfl⟩
 rw [hJ]
 have HJ := Lib.hid hJ
 have HS := Lib.hid hs
 clear hJ hs
 go_enter Tryz.func198,Tryz.ntmps198
 go_wp2
 go_loopw [7] (fun i wr => Below w.heap.size w wr ∧ ∃ k : Nat,k ≤ n ∧ i = .int .i64 (k : Int)) (fun i _ => n - (intOf i).toNat)
 case atStart => exact ⟨Below.refl _ _,0,Nat.zero_le _,rfl⟩
 case round =>
  obtain ⟨hbl,r,hr,rfl⟩ := hrel
  by_cases hrm : r < n
  ·have i1 : (r : Int) < (n : Int) := by omega
   have oxr := own_below HS.out hbl
   obtain ⟨g,kx,e0,-,-⟩ := oxr.form (by omega)
   injection e0 with e0 _ e1
   subst e0 e1
   obtain ⟨M,hM⟩ : ∃ M : Bool,lmk p (id) (r) = M := ⟨_,rfl⟩
   have HM := Lib.hid hM
   clear hM
   have hmk := mkL_eq HJ HM
   have cz0 : wr.cell? ⟨g,r,none⟩ = some (.bool M) := (congrArg (fun q => wr.cell? ⟨g,q,none⟩) (Nat.mul_one r)).symm.trans <| (own_mark okL oxr hrm (i := 0) (by decide)).trans (by rw [hmk];rfl)
   have c1 := keepc hbl hc
   have hr2 : r ≤ 10000000000000 := by omega
   have hgw : g < wr.heap.size := (oxr.lt g rfl).2
   clear hmk oxr
   go_wp2_with fail
   refine (mark_L_as HJ HM _ c1 hp hid hr2).mono ?_
   rintro e w3 ⟨rfl,hb3⟩
   have hbl3 := hbl.trans (hb3.mono hbl.size)
   replace cz0 := keepc hb3 cz0
   clear hb3
   go_wp2
   go_roundw
   case rel => exact ⟨hbl3,r + 1,by omega,by go_num⟩
   case measure => simp [intOf];omega
  ·obtain rfl : r = n := by omega
   have i1 : ¬ (r : Int) < (r : Int) := by omega
   go_wp2
   go_ret
   exact ⟨rfl,hbl⟩
set_option maxRecDepth 20000 in
set_option maxHeartbeats 8000000 in
theorem show_F (B K p id n c : Nat) (A : Option Addr) (w : World) (hc : w.cell? ⟨K,1,none⟩ = some (.int .i64 (p : Int))) (hKw : K < w.heap.size) (hp : p ≤ 1) (hid : id ≤ 10000000000000) (hn : n ≤ 2000100) (hs : w.ownsRow B kF.e kF.s (.slice A n c) n (marks kF p id n)) :
  Calls Tryz.prog 210 #[.pointer (some ⟨K,0,none⟩),.slice A n c,.int .i64 (id : Int)] w fun e w' => e = .returned (.bool true) ∧ Below w.heap.size w w' := by
 obtain ⟨J,hJ⟩ : ∃ J : Int,(id : Int) = J := ⟨_,rfl⟩
 rw [hJ]
 have HJ := Lib.hid hJ
 have HS := Lib.hid hs
 clear hJ hs
 go_enter Tryz.func210,Tryz.ntmps210
 go_wp2
 go_loopw [7] (fun i wr => Below w.heap.size w wr ∧ ∃ k : Nat,k ≤ n ∧ i = .int .i64 (k : Int)) (fun i _ => n - (intOf i).toNat)
 case atStart => exact ⟨Below.refl _ _,0,Nat.zero_le _,rfl⟩
 case round =>
  obtain ⟨hbl,r,hr,rfl⟩ := hrel
  by_cases hrm : r < n
  ·have i1 : (r : Int) < (n : Int) := by omega
   have oxr := own_below HS.out hbl
   obtain ⟨g,kx,e0,-,-⟩ := oxr.form (by omega)
   injection e0 with e0 _ e1
   subst e0 e1
   obtain ⟨M,hM⟩ : ∃ M : Int,((2 * (r) + p : Nat) : Int) = M := ⟨_,rfl⟩
   have HM := Lib.hid hM
   clear hM
   have hmk := mkF_eq HJ HM
   have cz0 : wr.cell? ⟨g,r * 2,none⟩ = some (.int .i64 J) := (own_mark okF oxr hrm (i := 0) (by decide)).trans (by rw [hmk];rfl)
   have cz1 : wr.cell? ⟨g,r * 2 + 1,none⟩ = some (.int .i64 M) := (own_mark okF oxr hrm (i := 1) (by decide)).trans (by rw [hmk];rfl)
   have c1 := keepc hbl hc
   have hr2 : r ≤ 10000000000000 := by omega
   have hgw : g < wr.heap.size := (oxr.lt g rfl).2
   clear hmk oxr
   go_wp2_with fail
   refine (mark_F_as HJ HM _ c1 hp hid hr2).mono ?_
   rintro e w3 ⟨rfl,hb3⟩
   have hbl3 := hbl.trans (hb3.mono hbl.size)
   replace cz0 := keepc hb3 cz0
   replace cz1 := keepc hb3 cz1
   have hb4 := one w3 (.cells #[.int .i64 J,.int .i64 M] 125)
   have hbl4 := hbl3.trans (hb4.mono hbl3.size)
   have hB4 : Sr.Blk w3.heap.size #[.int .i64 J,.int .i64 M] 125 (w3.alloc (.cells #[.int .i64 J,.int .i64 M] 125)) := Sr.blk_new w3 _ _
   go_upto_region 5 with fail
   change Code.wp _ _ _ _ (w3.alloc (.cells #[.int .i64 J,.int .i64 M] 125))
   replace cz0 := keepc hb4 cz0
   replace cz1 := keepc hb4 cz1
   obtain ⟨P,hP⟩ : ∃ P,w3.heap.size = P := ⟨_,rfl⟩
   rw [hP] at hB4 ⊢
   have cb0 : (w3.alloc (.cells #[.int .i64 J,.int .i64 M] 125)).cell? ⟨P,0,none⟩ = some (.int .i64 J) := hB4.cell rfl
   have cb1 : (w3.alloc (.cells #[.int .i64 J,.int .i64 M] 125)).cell? ⟨P,1,none⟩ = some (.int .i64 M) := hB4.cell rfl
   clear hP hb3 hb4 hB4 hbl3
   generalize (w3.alloc (.cells #[.int .i64 J,.int .i64 M] 125)) = W4 at *
   go_quiet (fail)
   go_wp2
   go_roundw
   case rel => exact ⟨hbl4.trans ((By.below_of_drewN _).mono hbl4.size),r + 1,by omega,by go_num⟩
   case measure => simp [intOf];omega
  ·obtain rfl : r = n := by omega
   have i1 : ¬ (r : Int) < (r : Int) := by omega
   go_wp2
   go_ret
   exact ⟨rfl,hbl⟩
set_option maxRecDepth 20000 in
set_option maxHeartbeats 8000000 in
theorem show_C (B K p id n c : Nat) (A : Option Addr) (w : World) (hc : w.cell? ⟨K,1,none⟩ = some (.int .i64 (p : Int))) (hKw : K < w.heap.size) (hp : p ≤ 1) (hid : id ≤ 10000000000000) (hn : n ≤ 2000100) (hs : w.ownsRow B kC.e kC.s (.slice A n c) n (marks kC p id n)) :
  Calls Tryz.prog 209 #[.pointer (some ⟨K,0,none⟩),.slice A n c,.int .i64 (id : Int)] w fun e w' => e = .returned (.bool true) ∧ Below w.heap.size w w' := by
 obtain ⟨J,hJ⟩ : ∃ J : Int,(id : Int) = J := ⟨_,rfl⟩
 rw [hJ]
 have HJ := Lib.hid hJ
 have HS := Lib.hid hs
 clear hJ hs
 go_enter Tryz.func209,Tryz.ntmps209
 go_wp2
 go_loopw [7] (fun i wr => Below w.heap.size w wr ∧ ∃ k : Nat,k ≤ n ∧ i = .int .i64 (k : Int)) (fun i _ => n - (intOf i).toNat)
 case atStart => exact ⟨Below.refl _ _,0,Nat.zero_le _,rfl⟩
 case round =>
  obtain ⟨hbl,r,hr,rfl⟩ := hrel
  by_cases hrm : r < n
  ·have i1 : (r : Int) < (n : Int) := by omega
   have oxr := own_below HS.out hbl
   obtain ⟨g,kx,e0,-,-⟩ := oxr.form (by omega)
   injection e0 with e0 _ e1
   subst e0 e1
   obtain ⟨M,hM⟩ : ∃ M : Int,((2 * (r) + p : Nat) : Int) = M := ⟨_,rfl⟩
   have HM := Lib.hid hM
   clear hM
   have hmk := mkC_eq HJ HM
   have cz0 : wr.cell? ⟨g,r * 8,none⟩ = some (.int .i64 J) := (own_mark okC oxr hrm (i := 0) (by decide)).trans (by rw [hmk];rfl)
   have cz1 : wr.cell? ⟨g,r * 8 + 1,none⟩ = some (.int .i64 M) := (own_mark okC oxr hrm (i := 1) (by decide)).trans (by rw [hmk];rfl)
   have cz2 : wr.cell? ⟨g,r * 8 + 2,none⟩ = some (.int .i64 0) := (own_mark okC oxr hrm (i := 2) (by decide)).trans (by rw [hmk];rfl)
   have cz3 : wr.cell? ⟨g,r * 8 + 3,none⟩ = some (.slice none 0 0) := (own_mark okC oxr hrm (i := 3) (by decide)).trans (by rw [hmk];rfl)
   have cz4 : wr.cell? ⟨g,r * 8 + 4,none⟩ = some (.int .i64 0) := (own_mark okC oxr hrm (i := 4) (by decide)).trans (by rw [hmk];rfl)
   have cz5 : wr.cell? ⟨g,r * 8 + 5,none⟩ = some (.int .u64 0) := (own_mark okC oxr hrm (i := 5) (by decide)).trans (by rw [hmk];rfl)
   have cz6 : wr.cell? ⟨g,r * 8 + 6,none⟩ = some (.int .u64 0) := (own_mark okC oxr hrm (i := 6) (by decide)).trans (by rw [hmk];rfl)
   have cz7 : wr.cell? ⟨g,r * 8 + 7,none⟩ = some (.int .i64 0) := (own_mark okC oxr hrm (i := 7) (by decide)).trans (by rw [hmk];rfl)
   have c1 := keepc hbl hc
   have hr2 : r ≤ 10000000000000 := by omega
   have hgw : g < wr.heap.size := (oxr.lt g rfl).2
   clear hmk oxr
   go_wp2_with fail
   refine (mark_C_as HJ HM _ c1 hp hid hr2).mono ?_
   rintro e w3 ⟨rfl,hb3⟩
   have hbl3 := hbl.trans (hb3.mono hbl.size)
   replace cz0 := keepc hb3 cz0
   replace cz1 := keepc hb3 cz1
   replace cz2 := keepc hb3 cz2
   replace cz3 := keepc hb3 cz3
   replace cz4 := keepc hb3 cz4
   replace cz5 := keepc hb3 cz5
   replace cz6 := keepc hb3 cz6
   replace cz7 := keepc hb3 cz7
   have hb4 := one w3 (.cells #[.int .i64 J,.int .i64 M,.int .i64 0,.slice none 0 0,.int .i64 0,.int .u64 0,.int .u64 0,.int .i64 0] 92)
   have hbl4 := hbl3.trans (hb4.mono hbl3.size)
   have hB4 : Sr.Blk w3.heap.size #[.int .i64 J,.int .i64 M,.int .i64 0,.slice none 0 0,.int .i64 0,.int .u64 0,.int .u64 0,.int .i64 0] 92 (w3.alloc (.cells #[.int .i64 J,.int .i64 M,.int .i64 0,.slice none 0 0,.int .i64 0,.int .u64 0,.int .u64 0,.int .i64 0] 92)) := Sr.blk_new w3 _ _
   go_upto_region 5 with fail
   change Code.wp _ _ _ _ (w3.alloc (.cells #[.int .i64 J,.int .i64 M,.int .i64 0,.slice none 0 0,.int .i64 0,.int .u64 0,.int .u64 0,.int .i64 0] 92))
   replace cz0 := keepc (Below.refl _ _).drew (keepc hb4 cz0)
   replace cz1 := keepc (Below.refl _ _).drew (keepc hb4 cz1)
   replace cz2 := keepc (Below.refl _ _).drew (keepc hb4 cz2)
   replace cz3 := keepc (Below.refl _ _).drew (keepc hb4 cz3)
   replace cz4 := keepc (Below.refl _ _).drew (keepc hb4 cz4)
   replace cz5 := keepc (Below.refl _ _).drew (keepc hb4 cz5)
   replace cz6 := keepc (Below.refl _ _).drew (keepc hb4 cz6)
   replace cz7 := keepc (Below.refl _ _).drew (keepc hb4 cz7)
   obtain ⟨P,hP⟩ : ∃ P,w3.heap.size = P := ⟨_,rfl⟩
   rw [hP] at hB4 ⊢
   replace hB4 := hB4.on (Below.refl _ _).drew
   have cb0 : (w3.alloc (.cells #[.int .i64 J,.int .i64 M,.int .i64 0,.slice none 0 0,.int .i64 0,.int .u64 0,.int .u64 0,.int .i64 0] 92)).drew.cell? ⟨P,0,none⟩ = some (.int .i64 J) := hB4.cell rfl
   have cb1 : (w3.alloc (.cells #[.int .i64 J,.int .i64 M,.int .i64 0,.slice none 0 0,.int .i64 0,.int .u64 0,.int .u64 0,.int .i64 0] 92)).drew.cell? ⟨P,1,none⟩ = some (.int .i64 M) := hB4.cell rfl
   have cb2 : (w3.alloc (.cells #[.int .i64 J,.int .i64 M,.int .i64 0,.slice none 0 0,.int .i64 0,.int .u64 0,.int .u64 0,.int .i64 0] 92)).drew.cell? ⟨P,2,none⟩ = some (.int .i64 0) := hB4.cell rfl
   have cb3 : (w3.alloc (.cells #[.int .i64 J,.int .i64 M,.int .i64 0,.slice none 0 0,.int .i64 0,.int .u64 0,.int .u64 0,.int .i64 0] 92)).drew.cell? ⟨P,3,none⟩ = some (.slice none 0 0) := hB4.cell rfl
   have cb4 : (w3.alloc (.cells #[.int .i64 J,.int .i64 M,.int .i64 0,.slice none 0 0,.int .i64 0,.int .u64 0,.int .u64 0,.int .i64 0] 92)).drew.cell? ⟨P,4,none⟩ = some (.int .i64 0) := hB4.cell rfl
   have cb5 : (w3.alloc (.cells #[.int .i64 J,.int .i64 M,.int .i64 0,.slice none 0 0,.int .i64 0,.int .u64 0,.int .u64 0,.int .i64 0] 92)).drew.cell? ⟨P,5,none⟩ = some (.int .u64 0) := hB4.cell rfl
   have cb6 : (w3.alloc (.cells #[.int .i64 J,.int .i64 M,.int .i64 0,.slice none 0 0,.int .i64 0,.int .u64 0,.int .u64 0,.int .i64 0] 92)).drew.cell? ⟨P,6,none⟩ = some (.int .u64 0) := hB4.cell rfl
   have cb7 : (w3.alloc (.cells #[.int .i64 J,.int .i64 M,.int .i64 0,.slice none 0 0,.int .i64 0,.int .u64 0,.int .u64 0,.int .i64 0] 92)).drew.cell? ⟨P,7,none⟩ = some (.int .i64 0) := hB4.cell rfl
   have hbl5 := hbl4.drew
   clear hP hb3 hb4 hB4 hbl4 hbl3
   generalize (w3.alloc (.cells #[.int .i64 J,.int .i64 M,.int .i64 0,.slice none 0 0,.int .i64 0,.int .u64 0,.int .u64 0,.int .i64 0] 92)) = W4 at *
   go_region_law (first
    | (go_simp;go_at_call 35;with_reducible refine (same_C_as HJ HM _).mono ?_;rintro e w5 ⟨rfl,hb5⟩;have hbl6 := hbl5.trans (hb5.mono hbl5.size)))
   all_goals
    go_wp2
    go_roundw
    case rel => exact ⟨hbl6,r + 1,by omega,by go_num⟩
    case measure => simp [intOf];omega
  ·obtain rfl : r = n := by omega
   have i1 : ¬ (r : Int) < (r : Int) := by omega
   go_wp2
   go_ret
   exact ⟨rfl,hbl⟩
set_option maxRecDepth 20000 in
set_option maxHeartbeats 8000000 in
theorem show_O (B K p id n c : Nat) (A : Option Addr) (w : World) (hc : w.cell? ⟨K,1,none⟩ = some (.int .i64 (p : Int))) (hKw : K < w.heap.size) (hp : p ≤ 1) (hid : id ≤ 10000000000000) (hn : n ≤ 2000100) (hs : w.ownsRow B kO.e kO.s (.slice A n c) n (marks kO p id n)) :
  Calls Tryz.prog 212 #[.pointer (some ⟨K,0,none⟩),.slice A n c,.int .i64 (id : Int)] w fun e w' => e = .returned (.bool true) ∧ Below w.heap.size w w' := by
 obtain ⟨J,hJ⟩ : ∃ J : Int,(id : Int) = J := ⟨_,rfl⟩
 rw [hJ]
 have HJ := Lib.hid hJ
 have HS := Lib.hid hs
 clear hJ hs
 go_enter Tryz.func212,Tryz.ntmps212
 go_wp2
 go_loopw [7] (fun i wr => Below w.heap.size w wr ∧ ∃ k : Nat,k ≤ n ∧ i = .int .i64 (k : Int)) (fun i _ => n - (intOf i).toNat)
 case atStart => exact ⟨Below.refl _ _,0,Nat.zero_le _,rfl⟩
 case round =>
  obtain ⟨hbl,r,hr,rfl⟩ := hrel
  by_cases hrm : r < n
  ·have i1 : (r : Int) < (n : Int) := by omega
   have oxr := own_below HS.out hbl
   obtain ⟨g,kx,e0,-,-⟩ := oxr.form (by omega)
   injection e0 with e0 _ e1
   subst e0 e1
   obtain ⟨M,hM⟩ : ∃ M : Int,((2 * (r) + p : Nat) : Int) = M := ⟨_,rfl⟩
   have HM := Lib.hid hM
   clear hM
   have hmk := mkO_eq HJ HM
   have cz0 : wr.cell? ⟨g,r * 14,none⟩ = some (.int .i64 J) := (own_mark okO oxr hrm (i := 0) (by decide)).trans (by rw [hmk];rfl)
   have cz1 : wr.cell? ⟨g,r * 14 + 1,none⟩ = some (.int .i64 M) := (own_mark okO oxr hrm (i := 1) (by decide)).trans (by rw [hmk];rfl)
   have cz2 : wr.cell? ⟨g,r * 14 + 2,none⟩ = some (.int .i64 0) := (own_mark okO oxr hrm (i := 2) (by decide)).trans (by rw [hmk];rfl)
   have cz3 : wr.cell? ⟨g,r * 14 + 3,none⟩ = some (.int .i64 0) := (own_mark okO oxr hrm (i := 3) (by decide)).trans (by rw [hmk];rfl)
   have cz4 : wr.cell? ⟨g,r * 14 + 4,none⟩ = some (.int .i64 0) := (own_mark okO oxr hrm (i := 4) (by decide)).trans (by rw [hmk];rfl)
   have cz5 : wr.cell? ⟨g,r * 14 + 5,none⟩ = some (.int .i64 0) := (own_mark okO oxr hrm (i := 5) (by decide)).trans (by rw [hmk];rfl)
   have cz6 : wr.cell? ⟨g,r * 14 + 6,none⟩ = some (.slice none 0 0) := (own_mark okO oxr hrm (i := 6) (by decide)).trans (by rw [hmk];rfl)
   have cz7 : wr.cell? ⟨g,r * 14 + 7,none⟩ = some (.int .i64 0) := (own_mark okO oxr hrm (i := 7) (by decide)).trans (by rw [hmk];rfl)
   have cz8 : wr.cell? ⟨g,r * 14 + 8,none⟩ = some (.int .i64 0) := (own_mark okO oxr hrm (i := 8) (by decide)).trans (by rw [hmk];rfl)
   have cz9 : wr.cell? ⟨g,r * 14 + 9,none⟩ = some (.int .i64 0) := (own_mark okO oxr hrm (i := 9) (by decide)).trans (by rw [hmk];rfl)
   have cz10 : wr.cell? ⟨g,r * 14 + 10,none⟩ = some (.int .i64 0) := (own_mark okO oxr hrm (i := 10) (by decide)).trans (by rw [hmk];rfl)
   have cz11 : wr.cell? ⟨g,r * 14 + 11,none⟩ = some (.slice none 0 0) := (own_mark okO oxr hrm (i := 11) (by decide)).trans (by rw [hmk];rfl)
   have cz12 : wr.cell? ⟨g,r * 14 + 12,none⟩ = some (.slice none 0 0) := (own_mark okO oxr hrm (i := 12) (by decide)).trans (by rw [hmk];rfl)
   have cz13 : wr.cell? ⟨g,r * 14 + 13,none⟩ = some (.slice none 0 0) := (own_mark okO oxr hrm (i := 13) (by decide)).trans (by rw [hmk];rfl)
   have c1 := keepc hbl hc
   have hr2 : r ≤ 10000000000000 := by omega
   have hgw : g < wr.heap.size := (oxr.lt g rfl).2
   clear hmk oxr
   go_wp2_with fail
   refine (mark_O_as HJ HM _ c1 hp hid hr2).mono ?_
   rintro e w3 ⟨rfl,hb3⟩
   have hbl3 := hbl.trans (hb3.mono hbl.size)
   replace cz0 := keepc hb3 cz0
   replace cz1 := keepc hb3 cz1
   replace cz2 := keepc hb3 cz2
   replace cz3 := keepc hb3 cz3
   replace cz4 := keepc hb3 cz4
   replace cz5 := keepc hb3 cz5
   replace cz6 := keepc hb3 cz6
   replace cz7 := keepc hb3 cz7
   replace cz8 := keepc hb3 cz8
   replace cz9 := keepc hb3 cz9
   replace cz10 := keepc hb3 cz10
   replace cz11 := keepc hb3 cz11
   replace cz12 := keepc hb3 cz12
   replace cz13 := keepc hb3 cz13
   have hb4 := one w3 (.cells #[.int .i64 J,.int .i64 M,.int .i64 0,.int .i64 0,.int .i64 0,.int .i64 0,.slice none 0 0,.int .i64 0,.int .i64 0,.int .i64 0,.int .i64 0,.slice none 0 0,.slice none 0 0,.slice none 0 0] 108)
   have hbl4 := hbl3.trans (hb4.mono hbl3.size)
   have hB4 : Sr.Blk w3.heap.size #[.int .i64 J,.int .i64 M,.int .i64 0,.int .i64 0,.int .i64 0,.int .i64 0,.slice none 0 0,.int .i64 0,.int .i64 0,.int .i64 0,.int .i64 0,.slice none 0 0,.slice none 0 0,.slice none 0 0] 108 (w3.alloc (.cells #[.int .i64 J,.int .i64 M,.int .i64 0,.int .i64 0,.int .i64 0,.int .i64 0,.slice none 0 0,.int .i64 0,.int .i64 0,.int .i64 0,.int .i64 0,.slice none 0 0,.slice none 0 0,.slice none 0 0] 108)) := Sr.blk_new w3 _ _
   go_upto_region 5 with fail
   change Code.wp _ _ _ _ (w3.alloc (.cells #[.int .i64 J,.int .i64 M,.int .i64 0,.int .i64 0,.int .i64 0,.int .i64 0,.slice none 0 0,.int .i64 0,.int .i64 0,.int .i64 0,.int .i64 0,.slice none 0 0,.slice none 0 0,.slice none 0 0] 108))
   replace cz0 := keepc (Below.refl _ _).drew (keepc hb4 cz0)
   replace cz1 := keepc (Below.refl _ _).drew (keepc hb4 cz1)
   replace cz2 := keepc (Below.refl _ _).drew (keepc hb4 cz2)
   replace cz3 := keepc (Below.refl _ _).drew (keepc hb4 cz3)
   replace cz4 := keepc (Below.refl _ _).drew (keepc hb4 cz4)
   replace cz5 := keepc (Below.refl _ _).drew (keepc hb4 cz5)
   replace cz6 := keepc (Below.refl _ _).drew (keepc hb4 cz6)
   replace cz7 := keepc (Below.refl _ _).drew (keepc hb4 cz7)
   replace cz8 := keepc (Below.refl _ _).drew (keepc hb4 cz8)
   replace cz9 := keepc (Below.refl _ _).drew (keepc hb4 cz9)
   replace cz10 := keepc (Below.refl _ _).drew (keepc hb4 cz10)
   replace cz11 := keepc (Below.refl _ _).drew (keepc hb4 cz11)
   replace cz12 := keepc (Below.refl _ _).drew (keepc hb4 cz12)
   replace cz13 := keepc (Below.refl _ _).drew (keepc hb4 cz13)
   obtain ⟨P,hP⟩ : ∃ P,w3.heap.size = P := ⟨_,rfl⟩
   rw [hP] at hB4 ⊢
   replace hB4 := hB4.on (Below.refl _ _).drew
   have cb0 : (w3.alloc (.cells #[.int .i64 J,.int .i64 M,.int .i64 0,.int .i64 0,.int .i64 0,.int .i64 0,.slice none 0 0,.int .i64 0,.int .i64 0,.int .i64 0,.int .i64 0,.slice none 0 0,.slice none 0 0,.slice none 0 0] 108)).drew.cell? ⟨P,0,none⟩ = some (.int .i64 J) := hB4.cell rfl
   have cb1 : (w3.alloc (.cells #[.int .i64 J,.int .i64 M,.int .i64 0,.int .i64 0,.int .i64 0,.int .i64 0,.slice none 0 0,.int .i64 0,.int .i64 0,.int .i64 0,.int .i64 0,.slice none 0 0,.slice none 0 0,.slice none 0 0] 108)).drew.cell? ⟨P,1,none⟩ = some (.int .i64 M) := hB4.cell rfl
   have cb2 : (w3.alloc (.cells #[.int .i64 J,.int .i64 M,.int .i64 0,.int .i64 0,.int .i64 0,.int .i64 0,.slice none 0 0,.int .i64 0,.int .i64 0,.int .i64 0,.int .i64 0,.slice none 0 0,.slice none 0 0,.slice none 0 0] 108)).drew.cell? ⟨P,2,none⟩ = some (.int .i64 0) := hB4.cell rfl
   have cb3 : (w3.alloc (.cells #[.int .i64 J,.int .i64 M,.int .i64 0,.int .i64 0,.int .i64 0,.int .i64 0,.slice none 0 0,.int .i64 0,.int .i64 0,.int .i64 0,.int .i64 0,.slice none 0 0,.slice none 0 0,.slice none 0 0] 108)).drew.cell? ⟨P,3,none⟩ = some (.int .i64 0) := hB4.cell rfl
   have cb4 : (w3.alloc (.cells #[.int .i64 J,.int .i64 M,.int .i64 0,.int .i64 0,.int .i64 0,.int .i64 0,.slice none 0 0,.int .i64 0,.int .i64 0,.int .i64 0,.int .i64 0,.slice none 0 0,.slice none 0 0,.slice none 0 0] 108)).drew.cell? ⟨P,4,none⟩ = some (.int .i64 0) := hB4.cell rfl
   have cb5 : (w3.alloc (.cells #[.int .i64 J,.int .i64 M,.int .i64 0,.int .i64 0,.int .i64 0,.int .i64 0,.slice none 0 0,.int .i64 0,.int .i64 0,.int .i64 0,.int .i64 0,.slice none 0 0,.slice none 0 0,.slice none 0 0] 108)).drew.cell? ⟨P,5,none⟩ = some (.int .i64 0) := hB4.cell rfl
   have cb6 : (w3.alloc (.cells #[.int .i64 J,.int .i64 M,.int .i64 0,.int .i64 0,.int .i64 0,.int .i64 0,.slice none 0 0,.int .i64 0,.int .i64 0,.int .i64 0,.int .i64 0,.slice none 0 0,.slice none 0 0,.slice none 0 0] 108)).drew.cell? ⟨P,6,none⟩ = some (.slice none 0 0) := hB4.cell rfl
   have cb7 : (w3.alloc (.cells #[.int .i64 J,.int .i64 M,.int .i64 0,.int .i64 0,.int .i64 0,.int .i64 0,.slice none 0 0,.int .i64 0,.int .i64 0,.int .i64 0,.int .i64 0,.slice none 0 0,.slice none 0 0,.slice none 0 0] 108)).drew.cell? ⟨P,7,none⟩ = some (.int .i64 0) := hB4.cell rfl
   have cb8 : (w3.alloc (.cells #[.int .i64 J,.int .i64 M,.int .i64 0,.int .i64 0,.int .i64 0,.int .i64 0,.slice none 0 0,.int .i64 0,.int .i64 0,.int .i64 0,.int .i64 0,.slice none 0 0,.slice none 0 0,.slice none 0 0] 108)).drew.cell? ⟨P,8,none⟩ = some (.int .i64 0) := hB4.cell rfl
   have cb9 : (w3.alloc (.cells #[.int .i64 J,.int .i64 M,.int .i64 0,.int .i64 0,.int .i64 0,.int .i64 0,.slice none 0 0,.int .i64 0,.int .i64 0,.int .i64 0,.int .i64 0,.slice none 0 0,.slice none 0 0,.slice none 0 0] 108)).drew.cell? ⟨P,9,none⟩ = some (.int .i64 0) := hB4.cell rfl
   have cb10 : (w3.alloc (.cells #[.int .i64 J,.int .i64 M,.int .i64 0,.int .i64 0,.int .i64 0,.int .i64 0,.slice none 0 0,.int .i64 0,.int .i64 0,.int .i64 0,.int .i64 0,.slice none 0 0,.slice none 0 0,.slice none 0 0] 108)).drew.cell? ⟨P,10,none⟩ = some (.int .i64 0) := hB4.cell rfl
   have cb11 : (w3.alloc (.cells #[.int .i64 J,.int .i64 M,.int .i64 0,.int .i64 0,.int .i64 0,.int .i64 0,.slice none 0 0,.int .i64 0,.int .i64 0,.int .i64 0,.int .i64 0,.slice none 0 0,.slice none 0 0,.slice none 0 0] 108)).drew.cell? ⟨P,11,none⟩ = some (.slice none 0 0) := hB4.cell rfl
   have cb12 : (w3.alloc (.cells #[.int .i64 J,.int .i64 M,.int .i64 0,.int .i64 0,.int .i64 0,.int .i64 0,.slice none 0 0,.int .i64 0,.int .i64 0,.int .i64 0,.int .i64 0,.slice none 0 0,.slice none 0 0,.slice none 0 0] 108)).drew.cell? ⟨P,12,none⟩ = some (.slice none 0 0) := hB4.cell rfl
   have cb13 : (w3.alloc (.cells #[.int .i64 J,.int .i64 M,.int .i64 0,.int .i64 0,.int .i64 0,.int .i64 0,.slice none 0 0,.int .i64 0,.int .i64 0,.int .i64 0,.int .i64 0,.slice none 0 0,.slice none 0 0,.slice none 0 0] 108)).drew.cell? ⟨P,13,none⟩ = some (.slice none 0 0) := hB4.cell rfl
   have hbl5 := hbl4.drew
   clear hP hb3 hb4 hB4 hbl4 hbl3
   generalize (w3.alloc (.cells #[.int .i64 J,.int .i64 M,.int .i64 0,.int .i64 0,.int .i64 0,.int .i64 0,.slice none 0 0,.int .i64 0,.int .i64 0,.int .i64 0,.int .i64 0,.slice none 0 0,.slice none 0 0,.slice none 0 0] 108)) = W4 at *
   go_region_law (first
    | (go_simp;go_at_call 81;with_reducible refine (same_O_as HJ HM _).mono ?_;rintro e w5 ⟨rfl,hb5⟩;have hbl6 := hbl5.trans (hb5.mono hbl5.size)))
   all_goals
    go_wp2
    go_roundw
    case rel => exact ⟨hbl6,r + 1,by omega,by go_num⟩
    case measure => simp [intOf];omega
  ·obtain rfl : r = n := by omega
   have i1 : ¬ (r : Int) < (r : Int) := by omega
   go_wp2
   go_ret
   exact ⟨rfl,hbl⟩
end Go.Proofs.YtpkmekdpmkfcdaaGreatDoor.Kb
namespace Go.Proofs.YtpkmekdpmkfcdaaGreatDoor.Kb
set_option linter.unusedVariables false
set_option linter.unusedSimpArgs false
open Go.RowKit Go.Proofs.YtpkmekdpmkfcdaaGreatDoor.Wd Go.Proofs.YtpkmekdpmkfcdaaGreatDoor.Px Go.Proofs.YtpkmekdpmkfcdaaGreatDoor.By Go.Proofs.YtpkmekdpmkfcdaaGreatDoor.Pf Go.Proofs.YtpkmekdpmkfcdaaGreatDoor.Sc
open Go.Proofs.YtpkmekdpmkfcdaaGreatDoor.Sr (own_same own_kind own_low CRow ORow OpO Opv Und fltC Lim LimO chC opC nl put14)
set_option maxRecDepth 20000 in
set_option maxHeartbeats 4000000 in
theorem hold_B (B K p id : Nat) (ls gs : List Lst) (w : World) (h : Kst kB B K ls gs w) (hb : Bas K p w) (hKB : K < B) (hBW : B ≤ w.heap.size) (hp : p ≤ 1) (hid : id ≤ 5000000000000) (hn : ls.length ≤ 1000000000000) (hm : Mkd kB p id ls) (hg : Mkd kB p id gs) (hl : ∀ l ∈ ls,l.n ≤ 2000100) (hl2 : ∀ l ∈ gs,l.n ≤ 2000100) :
  Calls Tryz.prog 104 #[.pointer (some ⟨K,0,none⟩),.int .i64 (id : Int)] w fun e w' => e = .returned (.tuple #[.int .i64 ((id + ls.length : Nat) : Int),.bool true]) ∧ Below w.heap.size w w' := by
 obtain ⟨n,hnn⟩ : ∃ n,ls.length = n := ⟨_,rfl⟩
 obtain ⟨m2,hmm⟩ : ∃ m,gs.length = m := ⟨_,rfl⟩
 obtain ⟨v0,v2,hd⟩ := h.hd
 have o0 := hd.o0
 have o2 := hd.o2
 rw [hnn] at hn o0 ⊢
 rw [hmm] at o2
 have HNN := Lib.hid hnn
 have HMM := Lib.hid hmm
 obtain ⟨I0,hI0⟩ : ∃ I : Int,(id : Int) = I := ⟨_,rfl⟩
 obtain ⟨IN,hIN⟩ : ∃ I : Int,((id + n : Nat) : Int) = I := ⟨_,rfl⟩
 rw [hI0,hIN]
 have HI0 := Lib.hid hI0
 have HIN := Lib.hid hIN
 obtain ⟨A0,k0,rfl,-⟩ := Sr.own_sl o0
 obtain ⟨A2,k2,rfl,-⟩ := Sr.own_sl o2
 have c1 := hb.c1
 have c2 : w.cell? ⟨K,2,none⟩ = some (.slice A0 n k0) := hd.c0
 have c4 : w.cell? ⟨K,4,none⟩ = some (.slice A2 m2 k2) := hd.c2
 have hKw : K < w.heap.size := by omega
 have HH := Lib.hid h
 have HO0 := Lib.hid o0
 have HO2 := Lib.hid o2
 have HM := Lib.hid hm
 have HG := Lib.hid hg
 have HL := Lib.hid hl
 have HL2 := Lib.hid hl2
 clear hnn hmm hI0 hIN hd o0 o2 hm hg hl hl2 h hb
 go_enter Tryz.func104,Tryz.ntmps104
 go_wp2
 go_loopw [1,6,7] (fun v al i wr => Below w.heap.size w wr ∧ ∃ (q : Nat) (I : Int),q ≤ n ∧ Hid (((id + q : Nat) : Int) = I) ∧ v = .int .i64 I ∧ al = .bool true ∧ i = .int .i64 (q : Int)) (fun _ _ i _ => n - (intOf i).toNat)
 case atStart => exact ⟨Below.refl _ _,0,I0,Nat.zero_le _,HI0,rfl,rfl,rfl⟩
 case round =>
  obtain ⟨hbl,q,I,hq,HI,rfl,rfl,rfl⟩ := hrel
  have c2r := keepc hbl c2
  have c4r := keepc hbl c4
  by_cases hlt : q < n
  ·have i1 : (q : Int) < (n : Int) := by omega
   obtain ⟨J,hJ⟩ : ∃ J : Int,((id + q + 1 : Nat) : Int) = J := ⟨_,rfl⟩
   have iw : IntKind.i64.wrap (I + 1) = J := by rw [← HI.out,← hJ,IntWalk.i64_in _ ⟨by omega,by omega⟩];simp
   have HJ := Lib.hid hJ
   obtain ⟨⟨lv,m,ld⟩,hl0⟩ : ∃ l,ls[q]? = some l := ⟨_,List.getElem?_eq_getElem (by rw [HNN.out];exact hlt)⟩
   have hm9 : m ≤ 2000100 := HL.out _ (List.mem_of_getElem? hl0)
   obtain ⟨g0,kk,e0,-,-⟩ := HO0.out.form (by omega)
   injection e0 with e0 _ e1
   subst e0 e1
   have cx0 := keepc hbl ((HO0.out.cellAt q (by omega)).trans (by rw [List.getElem?_map,hl0];rfl) : w.cell? ⟨g0,q,none⟩ = some lv)
   have ox : w.ownsRow B kB.e kB.s lv m ld := HH.out.rv q _ hl0
   obtain ⟨Ax,kx,rfl,-⟩ := Sr.own_sl ox
   have hld : ld = marks kB p (id + q + 1) m := HM.out q _ hl0
   subst hld
   have hc1 := Lib.hid (fun (w3 : World) (hb3 : Below w.heap.size w w3) => show_B B K p (id + q + 1) m kx Ax w3 (keepc hb3 c1) (Nat.lt_of_lt_of_le hKw hb3.size) hp (by omega) hm9 (own_below ox hb3))
   rw [hJ] at hc1
   clear ox hl0 hJ
   go_wp2_with fail
   refine (hc1.out _ hbl).mono ?_
   rintro e w3 ⟨rfl,hb3⟩
   have hbl3 := hbl.trans (hb3.mono hbl.size)
   have c2s := keepc hbl3 c2
   have c4s := keepc hbl3 c4
   clear hc1
   by_cases hgm : q < m2
   ·have i2 : (q : Int) < (m2 : Int) := by omega
    obtain ⟨⟨gv,mg,gd⟩,hg0⟩ : ∃ l,gs[q]? = some l := ⟨_,List.getElem?_eq_getElem (by rw [HMM.out];exact hgm)⟩
    have hmg9 : mg ≤ 2000100 := HL2.out _ (List.mem_of_getElem? hg0)
    obtain ⟨g2,kk2,e2,-,-⟩ := HO2.out.form (by omega)
    injection e2 with e2 _ e3
    subst e2 e3
    have cx2 := keepc hbl3 ((HO2.out.cellAt q (by omega)).trans (by rw [List.getElem?_map,hg0];rfl) : w.cell? ⟨g2,q,none⟩ = some gv)
    have oy : w.ownsRow B kB.e kB.s gv mg gd := HH.out.rg q _ hg0
    obtain ⟨Ay,ky,rfl,-⟩ := Sr.own_sl oy
    have hgd : gd = marks kB p (id + q + 1) mg := HG.out q _ hg0
    subst hgd
    have hc2 := Lib.hid (fun (w3 : World) (hb3 : Below w.heap.size w w3) => show_B B K p (id + q + 1) mg ky Ay w3 (keepc hb3 c1) (Nat.lt_of_lt_of_le hKw hb3.size) hp (by omega) hmg9 (own_below oy hb3))
    rw [HJ.out] at hc2
    clear oy hg0
    go_wp2_with fail
    refine (hc2.out _ hbl3).mono ?_
    rintro e w5 ⟨rfl,hb5⟩
    have hbl5 := hbl3.trans (hb5.mono hbl3.size)
    clear hc2 hb3 hb5
    go_wp2
    go_roundw
    case rel => exact ⟨hbl5,q + 1,J,by omega,HJ,rfl,rfl,by go_num⟩
    case measure => simp [intOf];omega
   ·have i2 : ¬ (q : Int) < (m2 : Int) := by omega
    clear hb3
    go_wp2
    go_roundw
    case rel => exact ⟨hbl3,q + 1,J,by omega,HJ,rfl,rfl,by go_num⟩
    case measure => simp [intOf];omega
  ·obtain rfl : q = n := by omega
   have i1 : ¬ (q : Int) < (q : Int) := by omega
   have HV : Hid (I = IN) := Lib.hid (by rw [← HI.out,← HIN.out])
   go_wp2
   go_ret2
   have hv := HV.out
   subst hv
   exact ⟨rfl,hbl⟩
set_option maxRecDepth 20000 in
set_option maxHeartbeats 4000000 in
theorem hold_L (B K p id : Nat) (ls gs : List Lst) (w : World) (h : Kst kL B K ls gs w) (hb : Bas K p w) (hKB : K < B) (hBW : B ≤ w.heap.size) (hp : p ≤ 1) (hid : id ≤ 5000000000000) (hn : ls.length ≤ 1000000000000) (hm : Mkd kL p id ls) (hg : Mkd kL p id gs) (hl : ∀ l ∈ ls,l.n ≤ 2000100) (hl2 : ∀ l ∈ gs,l.n ≤ 2000100) :
  Calls Tryz.prog 105 #[.pointer (some ⟨K,0,none⟩),.int .i64 (id : Int)] w fun e w' => e = .returned (.tuple #[.int .i64 ((id + ls.length : Nat) : Int),.bool true]) ∧ Below w.heap.size w w' := by
 obtain ⟨n,hnn⟩ : ∃ n,ls.length = n := ⟨_,rfl⟩
 obtain ⟨m2,hmm⟩ : ∃ m,gs.length = m := ⟨_,rfl⟩
 obtain ⟨v0,v2,hd⟩ := h.hd
 have o0 := hd.o0
 have o2 := hd.o2
 rw [hnn] at hn o0 ⊢
 rw [hmm] at o2
 have HNN := Lib.hid hnn
 have HMM := Lib.hid hmm
 obtain ⟨I0,hI0⟩ : ∃ I : Int,(id : Int) = I := ⟨_,rfl⟩
 obtain ⟨IN,hIN⟩ : ∃ I : Int,((id + n : Nat) : Int) = I := ⟨_,rfl⟩
 rw [hI0,hIN]
 have HI0 := Lib.hid hI0
 have HIN := Lib.hid hIN
 obtain ⟨A0,k0,rfl,-⟩ := Sr.own_sl o0
 obtain ⟨A2,k2,rfl,-⟩ := Sr.own_sl o2
 have c1 := hb.c1
 have c2 : w.cell? ⟨K,5,none⟩ = some (.slice A0 n k0) := hd.c0
 have c4 : w.cell? ⟨K,7,none⟩ = some (.slice A2 m2 k2) := hd.c2
 have hKw : K < w.heap.size := by omega
 have HH := Lib.hid h
 have HO0 := Lib.hid o0
 have HO2 := Lib.hid o2
 have HM := Lib.hid hm
 have HG := Lib.hid hg
 have HL := Lib.hid hl
 have HL2 := Lib.hid hl2
 clear hnn hmm hI0 hIN hd o0 o2 hm hg hl hl2 h hb
 go_enter Tryz.func105,Tryz.ntmps105
 go_wp2
 go_loopw [1,6,7] (fun v al i wr => Below w.heap.size w wr ∧ ∃ (q : Nat) (I : Int),q ≤ n ∧ Hid (((id + q : Nat) : Int) = I) ∧ v = .int .i64 I ∧ al = .bool true ∧ i = .int .i64 (q : Int)) (fun _ _ i _ => n - (intOf i).toNat)
 case atStart => exact ⟨Below.refl _ _,0,I0,Nat.zero_le _,HI0,rfl,rfl,rfl⟩
 case round =>
  obtain ⟨hbl,q,I,hq,HI,rfl,rfl,rfl⟩ := hrel
  have c2r := keepc hbl c2
  have c4r := keepc hbl c4
  by_cases hlt : q < n
  ·have i1 : (q : Int) < (n : Int) := by omega
   obtain ⟨J,hJ⟩ : ∃ J : Int,((id + q + 1 : Nat) : Int) = J := ⟨_,rfl⟩
   have iw : IntKind.i64.wrap (I + 1) = J := by rw [← HI.out,← hJ,IntWalk.i64_in _ ⟨by omega,by omega⟩];simp
   have HJ := Lib.hid hJ
   obtain ⟨⟨lv,m,ld⟩,hl0⟩ : ∃ l,ls[q]? = some l := ⟨_,List.getElem?_eq_getElem (by rw [HNN.out];exact hlt)⟩
   have hm9 : m ≤ 2000100 := HL.out _ (List.mem_of_getElem? hl0)
   obtain ⟨g0,kk,e0,-,-⟩ := HO0.out.form (by omega)
   injection e0 with e0 _ e1
   subst e0 e1
   have cx0 := keepc hbl ((HO0.out.cellAt q (by omega)).trans (by rw [List.getElem?_map,hl0];rfl) : w.cell? ⟨g0,q,none⟩ = some lv)
   have ox : w.ownsRow B kL.e kL.s lv m ld := HH.out.rv q _ hl0
   obtain ⟨Ax,kx,rfl,-⟩ := Sr.own_sl ox
   have hld : ld = marks kL p (id + q + 1) m := HM.out q _ hl0
   subst hld
   have hc1 := Lib.hid (fun (w3 : World) (hb3 : Below w.heap.size w w3) => show_L B K p (id + q + 1) m kx Ax w3 (keepc hb3 c1) (Nat.lt_of_lt_of_le hKw hb3.size) hp (by omega) hm9 (own_below ox hb3))
   rw [hJ] at hc1
   clear ox hl0 hJ
   go_wp2_with fail
   refine (hc1.out _ hbl).mono ?_
   rintro e w3 ⟨rfl,hb3⟩
   have hbl3 := hbl.trans (hb3.mono hbl.size)
   have c2s := keepc hbl3 c2
   have c4s := keepc hbl3 c4
   clear hc1
   by_cases hgm : q < m2
   ·have i2 : (q : Int) < (m2 : Int) := by omega
    obtain ⟨⟨gv,mg,gd⟩,hg0⟩ : ∃ l,gs[q]? = some l := ⟨_,List.getElem?_eq_getElem (by rw [HMM.out];exact hgm)⟩
    have hmg9 : mg ≤ 2000100 := HL2.out _ (List.mem_of_getElem? hg0)
    obtain ⟨g2,kk2,e2,-,-⟩ := HO2.out.form (by omega)
    injection e2 with e2 _ e3
    subst e2 e3
    have cx2 := keepc hbl3 ((HO2.out.cellAt q (by omega)).trans (by rw [List.getElem?_map,hg0];rfl) : w.cell? ⟨g2,q,none⟩ = some gv)
    have oy : w.ownsRow B kL.e kL.s gv mg gd := HH.out.rg q _ hg0
    obtain ⟨Ay,ky,rfl,-⟩ := Sr.own_sl oy
    have hgd : gd = marks kL p (id + q + 1) mg := HG.out q _ hg0
    subst hgd
    have hc2 := Lib.hid (fun (w3 : World) (hb3 : Below w.heap.size w w3) => show_L B K p (id + q + 1) mg ky Ay w3 (keepc hb3 c1) (Nat.lt_of_lt_of_le hKw hb3.size) hp (by omega) hmg9 (own_below oy hb3))
    rw [HJ.out] at hc2
    clear oy hg0
    go_wp2_with fail
    refine (hc2.out _ hbl3).mono ?_
    rintro e w5 ⟨rfl,hb5⟩
    have hbl5 := hbl3.trans (hb5.mono hbl3.size)
    clear hc2 hb3 hb5
    go_wp2
    go_roundw
    case rel => exact ⟨hbl5,q + 1,J,by omega,HJ,rfl,rfl,by go_num⟩
    case measure => simp [intOf];omega
   ·have i2 : ¬ (q : Int) < (m2 : Int) := by omega
    clear hb3
    go_wp2
    go_roundw
    case rel => exact ⟨hbl3,q + 1,J,by omega,HJ,rfl,rfl,by go_num⟩
    case measure => simp [intOf];omega
  ·obtain rfl : q = n := by omega
   have i1 : ¬ (q : Int) < (q : Int) := by omega
   have HV : Hid (I = IN) := Lib.hid (by rw [← HI.out,← HIN.out])
   go_wp2
   go_ret2
   have hv := HV.out
   subst hv
   exact ⟨rfl,hbl⟩
set_option maxRecDepth 20000 in
set_option maxHeartbeats 4000000 in
theorem hold_F (B K p id : Nat) (ls gs : List Lst) (w : World) (h : Kst kF B K ls gs w) (hb : Bas K p w) (hKB : K < B) (hBW : B ≤ w.heap.size) (hp : p ≤ 1) (hid : id ≤ 5000000000000) (hn : ls.length ≤ 1000000000000) (hm : Mkd kF p id ls) (hg : Mkd kF p id gs) (hl : ∀ l ∈ ls,l.n ≤ 2000100) (hl2 : ∀ l ∈ gs,l.n ≤ 2000100) :
  Calls Tryz.prog 117 #[.pointer (some ⟨K,0,none⟩),.int .i64 (id : Int)] w fun e w' => e = .returned (.tuple #[.int .i64 ((id + ls.length : Nat) : Int),.bool true]) ∧ Below w.heap.size w w' := by
 obtain ⟨n,hnn⟩ : ∃ n,ls.length = n := ⟨_,rfl⟩
 obtain ⟨m2,hmm⟩ : ∃ m,gs.length = m := ⟨_,rfl⟩
 obtain ⟨v0,v2,hd⟩ := h.hd
 have o0 := hd.o0
 have o2 := hd.o2
 rw [hnn] at hn o0 ⊢
 rw [hmm] at o2
 have HNN := Lib.hid hnn
 have HMM := Lib.hid hmm
 obtain ⟨I0,hI0⟩ : ∃ I : Int,(id : Int) = I := ⟨_,rfl⟩
 obtain ⟨IN,hIN⟩ : ∃ I : Int,((id + n : Nat) : Int) = I := ⟨_,rfl⟩
 rw [hI0,hIN]
 have HI0 := Lib.hid hI0
 have HIN := Lib.hid hIN
 obtain ⟨A0,k0,rfl,-⟩ := Sr.own_sl o0
 obtain ⟨A2,k2,rfl,-⟩ := Sr.own_sl o2
 have c1 := hb.c1
 have c2 : w.cell? ⟨K,41,none⟩ = some (.slice A0 n k0) := hd.c0
 have c4 : w.cell? ⟨K,43,none⟩ = some (.slice A2 m2 k2) := hd.c2
 have hKw : K < w.heap.size := by omega
 have HH := Lib.hid h
 have HO0 := Lib.hid o0
 have HO2 := Lib.hid o2
 have HM := Lib.hid hm
 have HG := Lib.hid hg
 have HL := Lib.hid hl
 have HL2 := Lib.hid hl2
 clear hnn hmm hI0 hIN hd o0 o2 hm hg hl hl2 h hb
 go_enter Tryz.func117,Tryz.ntmps117
 go_wp2
 go_loopw [1,6,7] (fun v al i wr => Below w.heap.size w wr ∧ ∃ (q : Nat) (I : Int),q ≤ n ∧ Hid (((id + q : Nat) : Int) = I) ∧ v = .int .i64 I ∧ al = .bool true ∧ i = .int .i64 (q : Int)) (fun _ _ i _ => n - (intOf i).toNat)
 case atStart => exact ⟨Below.refl _ _,0,I0,Nat.zero_le _,HI0,rfl,rfl,rfl⟩
 case round =>
  obtain ⟨hbl,q,I,hq,HI,rfl,rfl,rfl⟩ := hrel
  have c2r := keepc hbl c2
  have c4r := keepc hbl c4
  by_cases hlt : q < n
  ·have i1 : (q : Int) < (n : Int) := by omega
   obtain ⟨J,hJ⟩ : ∃ J : Int,((id + q + 1 : Nat) : Int) = J := ⟨_,rfl⟩
   have iw : IntKind.i64.wrap (I + 1) = J := by rw [← HI.out,← hJ,IntWalk.i64_in _ ⟨by omega,by omega⟩];simp
   have HJ := Lib.hid hJ
   obtain ⟨⟨lv,m,ld⟩,hl0⟩ : ∃ l,ls[q]? = some l := ⟨_,List.getElem?_eq_getElem (by rw [HNN.out];exact hlt)⟩
   have hm9 : m ≤ 2000100 := HL.out _ (List.mem_of_getElem? hl0)
   obtain ⟨g0,kk,e0,-,-⟩ := HO0.out.form (by omega)
   injection e0 with e0 _ e1
   subst e0 e1
   have cx0 := keepc hbl ((HO0.out.cellAt q (by omega)).trans (by rw [List.getElem?_map,hl0];rfl) : w.cell? ⟨g0,q,none⟩ = some lv)
   have ox : w.ownsRow B kF.e kF.s lv m ld := HH.out.rv q _ hl0
   obtain ⟨Ax,kx,rfl,-⟩ := Sr.own_sl ox
   have hld : ld = marks kF p (id + q + 1) m := HM.out q _ hl0
   subst hld
   have hc1 := Lib.hid (fun (w3 : World) (hb3 : Below w.heap.size w w3) => show_F B K p (id + q + 1) m kx Ax w3 (keepc hb3 c1) (Nat.lt_of_lt_of_le hKw hb3.size) hp (by omega) hm9 (own_below ox hb3))
   rw [hJ] at hc1
   clear ox hl0 hJ
   go_wp2_with fail
   refine (hc1.out _ hbl).mono ?_
   rintro e w3 ⟨rfl,hb3⟩
   have hbl3 := hbl.trans (hb3.mono hbl.size)
   have c2s := keepc hbl3 c2
   have c4s := keepc hbl3 c4
   clear hc1
   by_cases hgm : q < m2
   ·have i2 : (q : Int) < (m2 : Int) := by omega
    obtain ⟨⟨gv,mg,gd⟩,hg0⟩ : ∃ l,gs[q]? = some l := ⟨_,List.getElem?_eq_getElem (by rw [HMM.out];exact hgm)⟩
    have hmg9 : mg ≤ 2000100 := HL2.out _ (List.mem_of_getElem? hg0)
    obtain ⟨g2,kk2,e2,-,-⟩ := HO2.out.form (by omega)
    injection e2 with e2 _ e3
    subst e2 e3
    have cx2 := keepc hbl3 ((HO2.out.cellAt q (by omega)).trans (by rw [List.getElem?_map,hg0];rfl) : w.cell? ⟨g2,q,none⟩ = some gv)
    have oy : w.ownsRow B kF.e kF.s gv mg gd := HH.out.rg q _ hg0
    obtain ⟨Ay,ky,rfl,-⟩ := Sr.own_sl oy
    have hgd : gd = marks kF p (id + q + 1) mg := HG.out q _ hg0
    subst hgd
    have hc2 := Lib.hid (fun (w3 : World) (hb3 : Below w.heap.size w w3) => show_F B K p (id + q + 1) mg ky Ay w3 (keepc hb3 c1) (Nat.lt_of_lt_of_le hKw hb3.size) hp (by omega) hmg9 (own_below oy hb3))
    rw [HJ.out] at hc2
    clear oy hg0
    go_wp2_with fail
    refine (hc2.out _ hbl3).mono ?_
    rintro e w5 ⟨rfl,hb5⟩
    have hbl5 := hbl3.trans (hb5.mono hbl3.size)
    clear hc2 hb3 hb5
    go_wp2
    go_roundw
    case rel => exact ⟨hbl5,q + 1,J,by omega,HJ,rfl,rfl,by go_num⟩
    case measure => simp [intOf];omega
   ·have i2 : ¬ (q : Int) < (m2 : Int) := by omega
    clear hb3
    go_wp2
    go_roundw
    case rel => exact ⟨hbl3,q + 1,J,by omega,HJ,rfl,rfl,by go_num⟩
    case measure => simp [intOf];omega
  ·obtain rfl : q = n := by omega
   have i1 : ¬ (q : Int) < (q : Int) := by omega
   have HV : Hid (I = IN) := Lib.hid (by rw [← HI.out,← HIN.out])
   go_wp2
   go_ret2
   have hv := HV.out
   subst hv
   exact ⟨rfl,hbl⟩
set_option maxRecDepth 20000 in
set_option maxHeartbeats 4000000 in
theorem hold_C (B K p id : Nat) (ls gs : List Lst) (w : World) (h : Kst kC B K ls gs w) (hb : Bas K p w) (hKB : K < B) (hBW : B ≤ w.heap.size) (hp : p ≤ 1) (hid : id ≤ 5000000000000) (hn : ls.length ≤ 1000000000000) (hm : Mkd kC p id ls) (hg : Mkd kC p id gs) (hl : ∀ l ∈ ls,l.n ≤ 2000100) (hl2 : ∀ l ∈ gs,l.n ≤ 2000100) :
  Calls Tryz.prog 116 #[.pointer (some ⟨K,0,none⟩),.int .i64 (id : Int)] w fun e w' => e = .returned (.tuple #[.int .i64 ((id + ls.length : Nat) : Int),.bool true]) ∧ Below w.heap.size w w' := by
 obtain ⟨n,hnn⟩ : ∃ n,ls.length = n := ⟨_,rfl⟩
 obtain ⟨m2,hmm⟩ : ∃ m,gs.length = m := ⟨_,rfl⟩
 obtain ⟨v0,v2,hd⟩ := h.hd
 have o0 := hd.o0
 have o2 := hd.o2
 rw [hnn] at hn o0 ⊢
 rw [hmm] at o2
 have HNN := Lib.hid hnn
 have HMM := Lib.hid hmm
 obtain ⟨I0,hI0⟩ : ∃ I : Int,(id : Int) = I := ⟨_,rfl⟩
 obtain ⟨IN,hIN⟩ : ∃ I : Int,((id + n : Nat) : Int) = I := ⟨_,rfl⟩
 rw [hI0,hIN]
 have HI0 := Lib.hid hI0
 have HIN := Lib.hid hIN
 obtain ⟨A0,k0,rfl,-⟩ := Sr.own_sl o0
 obtain ⟨A2,k2,rfl,-⟩ := Sr.own_sl o2
 have c1 := hb.c1
 have c2 : w.cell? ⟨K,38,none⟩ = some (.slice A0 n k0) := hd.c0
 have c4 : w.cell? ⟨K,40,none⟩ = some (.slice A2 m2 k2) := hd.c2
 have hKw : K < w.heap.size := by omega
 have HH := Lib.hid h
 have HO0 := Lib.hid o0
 have HO2 := Lib.hid o2
 have HM := Lib.hid hm
 have HG := Lib.hid hg
 have HL := Lib.hid hl
 have HL2 := Lib.hid hl2
 clear hnn hmm hI0 hIN hd o0 o2 hm hg hl hl2 h hb
 go_enter Tryz.func116,Tryz.ntmps116
 go_wp2
 go_loopw [1,6,7] (fun v al i wr => Below w.heap.size w wr ∧ ∃ (q : Nat) (I : Int),q ≤ n ∧ Hid (((id + q : Nat) : Int) = I) ∧ v = .int .i64 I ∧ al = .bool true ∧ i = .int .i64 (q : Int)) (fun _ _ i _ => n - (intOf i).toNat)
 case atStart => exact ⟨Below.refl _ _,0,I0,Nat.zero_le _,HI0,rfl,rfl,rfl⟩
 case round =>
  obtain ⟨hbl,q,I,hq,HI,rfl,rfl,rfl⟩ := hrel
  have c2r := keepc hbl c2
  have c4r := keepc hbl c4
  by_cases hlt : q < n
  ·have i1 : (q : Int) < (n : Int) := by omega
   obtain ⟨J,hJ⟩ : ∃ J : Int,((id + q + 1 : Nat) : Int) = J := ⟨_,rfl⟩
   have iw : IntKind.i64.wrap (I + 1) = J := by rw [← HI.out,← hJ,IntWalk.i64_in _ ⟨by omega,by omega⟩];simp
   have HJ := Lib.hid hJ
   obtain ⟨⟨lv,m,ld⟩,hl0⟩ : ∃ l,ls[q]? = some l := ⟨_,List.getElem?_eq_getElem (by rw [HNN.out];exact hlt)⟩
   have hm9 : m ≤ 2000100 := HL.out _ (List.mem_of_getElem? hl0)
   obtain ⟨g0,kk,e0,-,-⟩ := HO0.out.form (by omega)
   injection e0 with e0 _ e1
   subst e0 e1
   have cx0 := keepc hbl ((HO0.out.cellAt q (by omega)).trans (by rw [List.getElem?_map,hl0];rfl) : w.cell? ⟨g0,q,none⟩ = some lv)
   have ox : w.ownsRow B kC.e kC.s lv m ld := HH.out.rv q _ hl0
   obtain ⟨Ax,kx,rfl,-⟩ := Sr.own_sl ox
   have hld : ld = marks kC p (id + q + 1) m := HM.out q _ hl0
   subst hld
   have hc1 := Lib.hid (fun (w3 : World) (hb3 : Below w.heap.size w w3) => show_C B K p (id + q + 1) m kx Ax w3 (keepc hb3 c1) (Nat.lt_of_lt_of_le hKw hb3.size) hp (by omega) hm9 (own_below ox hb3))
   rw [hJ] at hc1
   clear ox hl0 hJ
   go_wp2_with fail
   refine (hc1.out _ hbl).mono ?_
   rintro e w3 ⟨rfl,hb3⟩
   have hbl3 := hbl.trans (hb3.mono hbl.size)
   have c2s := keepc hbl3 c2
   have c4s := keepc hbl3 c4
   clear hc1
   by_cases hgm : q < m2
   ·have i2 : (q : Int) < (m2 : Int) := by omega
    obtain ⟨⟨gv,mg,gd⟩,hg0⟩ : ∃ l,gs[q]? = some l := ⟨_,List.getElem?_eq_getElem (by rw [HMM.out];exact hgm)⟩
    have hmg9 : mg ≤ 2000100 := HL2.out _ (List.mem_of_getElem? hg0)
    obtain ⟨g2,kk2,e2,-,-⟩ := HO2.out.form (by omega)
    injection e2 with e2 _ e3
    subst e2 e3
    have cx2 := keepc hbl3 ((HO2.out.cellAt q (by omega)).trans (by rw [List.getElem?_map,hg0];rfl) : w.cell? ⟨g2,q,none⟩ = some gv)
    have oy : w.ownsRow B kC.e kC.s gv mg gd := HH.out.rg q _ hg0
    obtain ⟨Ay,ky,rfl,-⟩ := Sr.own_sl oy
    have hgd : gd = marks kC p (id + q + 1) mg := HG.out q _ hg0
    subst hgd
    have hc2 := Lib.hid (fun (w3 : World) (hb3 : Below w.heap.size w w3) => show_C B K p (id + q + 1) mg ky Ay w3 (keepc hb3 c1) (Nat.lt_of_lt_of_le hKw hb3.size) hp (by omega) hmg9 (own_below oy hb3))
    rw [HJ.out] at hc2
    clear oy hg0
    go_wp2_with fail
    refine (hc2.out _ hbl3).mono ?_
    rintro e w5 ⟨rfl,hb5⟩
    have hbl5 := hbl3.trans (hb5.mono hbl3.size)
    clear hc2 hb3 hb5
    go_wp2
    go_roundw
    case rel => exact ⟨hbl5,q + 1,J,by omega,HJ,rfl,rfl,by go_num⟩
    case measure => simp [intOf];omega
   ·have i2 : ¬ (q : Int) < (m2 : Int) := by omega
    clear hb3
    go_wp2
    go_roundw
    case rel => exact ⟨hbl3,q + 1,J,by omega,HJ,rfl,rfl,by go_num⟩
    case measure => simp [intOf];omega
  ·obtain rfl : q = n := by omega
   have i1 : ¬ (q : Int) < (q : Int) := by omega
   have HV : Hid (I = IN) := Lib.hid (by rw [← HI.out,← HIN.out])
   go_wp2
   go_ret2
   have hv := HV.out
   subst hv
   exact ⟨rfl,hbl⟩
set_option maxRecDepth 20000 in
set_option maxHeartbeats 4000000 in
theorem hold_O (B K p id : Nat) (ls gs : List Lst) (w : World) (h : Kst kO B K ls gs w) (hb : Bas K p w) (hKB : K < B) (hBW : B ≤ w.heap.size) (hp : p ≤ 1) (hid : id ≤ 5000000000000) (hn : ls.length ≤ 1000000000000) (hm : Mkd kO p id ls) (hg : Mkd kO p id gs) (hl : ∀ l ∈ ls,l.n ≤ 2000100) (hl2 : ∀ l ∈ gs,l.n ≤ 2000100) :
  Calls Tryz.prog 119 #[.pointer (some ⟨K,0,none⟩),.int .i64 (id : Int)] w fun e w' => e = .returned (.tuple #[.int .i64 ((id + ls.length : Nat) : Int),.bool true]) ∧ Below w.heap.size w w' := by
 obtain ⟨n,hnn⟩ : ∃ n,ls.length = n := ⟨_,rfl⟩
 obtain ⟨m2,hmm⟩ : ∃ m,gs.length = m := ⟨_,rfl⟩
 obtain ⟨v0,v2,hd⟩ := h.hd
 have o0 := hd.o0
 have o2 := hd.o2
 rw [hnn] at hn o0 ⊢
 rw [hmm] at o2
 have HNN := Lib.hid hnn
 have HMM := Lib.hid hmm
 obtain ⟨I0,hI0⟩ : ∃ I : Int,(id : Int) = I := ⟨_,rfl⟩
 obtain ⟨IN,hIN⟩ : ∃ I : Int,((id + n : Nat) : Int) = I := ⟨_,rfl⟩
 rw [hI0,hIN]
 have HI0 := Lib.hid hI0
 have HIN := Lib.hid hIN
 obtain ⟨A0,k0,rfl,-⟩ := Sr.own_sl o0
 obtain ⟨A2,k2,rfl,-⟩ := Sr.own_sl o2
 have c1 := hb.c1
 have c2 : w.cell? ⟨K,47,none⟩ = some (.slice A0 n k0) := hd.c0
 have c4 : w.cell? ⟨K,49,none⟩ = some (.slice A2 m2 k2) := hd.c2
 have hKw : K < w.heap.size := by omega
 have HH := Lib.hid h
 have HO0 := Lib.hid o0
 have HO2 := Lib.hid o2
 have HM := Lib.hid hm
 have HG := Lib.hid hg
 have HL := Lib.hid hl
 have HL2 := Lib.hid hl2
 clear hnn hmm hI0 hIN hd o0 o2 hm hg hl hl2 h hb
 go_enter Tryz.func119,Tryz.ntmps119
 go_wp2
 go_loopw [1,6,7] (fun v al i wr => Below w.heap.size w wr ∧ ∃ (q : Nat) (I : Int),q ≤ n ∧ Hid (((id + q : Nat) : Int) = I) ∧ v = .int .i64 I ∧ al = .bool true ∧ i = .int .i64 (q : Int)) (fun _ _ i _ => n - (intOf i).toNat)
 case atStart => exact ⟨Below.refl _ _,0,I0,Nat.zero_le _,HI0,rfl,rfl,rfl⟩
 case round =>
  obtain ⟨hbl,q,I,hq,HI,rfl,rfl,rfl⟩ := hrel
  have c2r := keepc hbl c2
  have c4r := keepc hbl c4
  by_cases hlt : q < n
  ·have i1 : (q : Int) < (n : Int) := by omega
   obtain ⟨J,hJ⟩ : ∃ J : Int,((id + q + 1 : Nat) : Int) = J := ⟨_,rfl⟩
   have iw : IntKind.i64.wrap (I + 1) = J := by rw [← HI.out,← hJ,IntWalk.i64_in _ ⟨by omega,by omega⟩];simp
   have HJ := Lib.hid hJ
   obtain ⟨⟨lv,m,ld⟩,hl0⟩ : ∃ l,ls[q]? = some l := ⟨_,List.getElem?_eq_getElem (by rw [HNN.out];exact hlt)⟩
   have hm9 : m ≤ 2000100 := HL.out _ (List.mem_of_getElem? hl0)
   obtain ⟨g0,kk,e0,-,-⟩ := HO0.out.form (by omega)
   injection e0 with e0 _ e1
   subst e0 e1
   have cx0 := keepc hbl ((HO0.out.cellAt q (by omega)).trans (by rw [List.getElem?_map,hl0];rfl) : w.cell? ⟨g0,q,none⟩ = some lv)
   have ox : w.ownsRow B kO.e kO.s lv m ld := HH.out.rv q _ hl0
   obtain ⟨Ax,kx,rfl,-⟩ := Sr.own_sl ox
   have hld : ld = marks kO p (id + q + 1) m := HM.out q _ hl0
   subst hld
   have hc1 := Lib.hid (fun (w3 : World) (hb3 : Below w.heap.size w w3) => show_O B K p (id + q + 1) m kx Ax w3 (keepc hb3 c1) (Nat.lt_of_lt_of_le hKw hb3.size) hp (by omega) hm9 (own_below ox hb3))
   rw [hJ] at hc1
   clear ox hl0 hJ
   go_wp2_with fail
   refine (hc1.out _ hbl).mono ?_
   rintro e w3 ⟨rfl,hb3⟩
   have hbl3 := hbl.trans (hb3.mono hbl.size)
   have c2s := keepc hbl3 c2
   have c4s := keepc hbl3 c4
   clear hc1
   by_cases hgm : q < m2
   ·have i2 : (q : Int) < (m2 : Int) := by omega
    obtain ⟨⟨gv,mg,gd⟩,hg0⟩ : ∃ l,gs[q]? = some l := ⟨_,List.getElem?_eq_getElem (by rw [HMM.out];exact hgm)⟩
    have hmg9 : mg ≤ 2000100 := HL2.out _ (List.mem_of_getElem? hg0)
    obtain ⟨g2,kk2,e2,-,-⟩ := HO2.out.form (by omega)
    injection e2 with e2 _ e3
    subst e2 e3
    have cx2 := keepc hbl3 ((HO2.out.cellAt q (by omega)).trans (by rw [List.getElem?_map,hg0];rfl) : w.cell? ⟨g2,q,none⟩ = some gv)
    have oy : w.ownsRow B kO.e kO.s gv mg gd := HH.out.rg q _ hg0
    obtain ⟨Ay,ky,rfl,-⟩ := Sr.own_sl oy
    have hgd : gd = marks kO p (id + q + 1) mg := HG.out q _ hg0
    subst hgd
    have hc2 := Lib.hid (fun (w3 : World) (hb3 : Below w.heap.size w w3) => show_O B K p (id + q + 1) mg ky Ay w3 (keepc hb3 c1) (Nat.lt_of_lt_of_le hKw hb3.size) hp (by omega) hmg9 (own_below oy hb3))
    rw [HJ.out] at hc2
    clear oy hg0
    go_wp2_with fail
    refine (hc2.out _ hbl3).mono ?_
    rintro e w5 ⟨rfl,hb5⟩
    have hbl5 := hbl3.trans (hb5.mono hbl3.size)
    clear hc2 hb3 hb5
    go_wp2
    go_roundw
    case rel => exact ⟨hbl5,q + 1,J,by omega,HJ,rfl,rfl,by go_num⟩
    case measure => simp [intOf];omega
   ·have i2 : ¬ (q : Int) < (m2 : Int) := by omega
    clear hb3
    go_wp2
    go_roundw
    case rel => exact ⟨hbl3,q + 1,J,by omega,HJ,rfl,rfl,by go_num⟩
    case measure => simp [intOf];omega
  ·obtain rfl : q = n := by omega
   have i1 : ¬ (q : Int) < (q : Int) := by omega
   have HV : Hid (I = IN) := Lib.hid (by rw [← HI.out,← HIN.out])
   go_wp2
   go_ret2
   have hv := HV.out
   subst hv
   exact ⟨rfl,hbl⟩
end Go.Proofs.YtpkmekdpmkfcdaaGreatDoor.Kb
