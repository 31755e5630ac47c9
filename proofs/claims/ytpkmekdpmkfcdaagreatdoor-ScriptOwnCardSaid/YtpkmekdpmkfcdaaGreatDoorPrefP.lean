/- Contract: an address's text, by the program: groups of four hexadecimal digits. -/
import Derived.Test.YtpkmekdpmkfcdaaGreatDoorMD
import Derived.Deep.DrawnRows
namespace Go.Proofs.YtpkmekdpmkfcdaaGreatDoor.Pf
open Go.RowKit Go.Proofs.YtpkmekdpmkfcdaaGreatDoor.Wd Go.Proofs.YtpkmekdpmkfcdaaGreatDoor.Px Go.Proofs.YtpkmekdpmkfcdaaGreatDoor.By Go.Proofs.YtpkmekdpmkfcdaaGreatDoor.En Go.Proofs.YtpkmekdpmkfcdaaGreatDoor.Pl
attribute [local go_sem ↓] Go.wp_at_zero Go.wp_at_succ
set_option linter.unusedSimpArgs false
/-- groups of four hexadecimal digits, one for each two bytes -/
def hexs : List UInt8 → List (List UInt8)
 | a :: b :: r => hex4 (a.toNat * 256 + b.toNat) :: hexs r
 | _ => []
theorem hexs_len : ∀ (bs : List UInt8) (m : Nat),bs.length = 2 * m → (hexs bs).length = m
 | [],m,h => by simp at h;simp [hexs];omega
 | [a],m,h => by simp at h;omega
 | a :: b :: r,m,h => by
  simp only [List.length_cons] at h
  have := hexs_len r (m - 1) (by omega)
  simp only [hexs,List.length_cons,this]
  omega
theorem hexs_at : ∀ (bs : List UInt8) (k : Nat) (h : 2 * k + 1 < bs.length),(hexs bs)[k]? = some (hex4 (bs[2 * k].toNat * 256 + bs[2 * k + 1].toNat))
 | [],k,h => by simp at h
 | [a],k,h => by simp at h
 | a :: b :: r,0,h => by simp [hexs]
 | a :: b :: r,k + 1,h => by
  simp only [List.length_cons] at h
  have := hexs_at r k (by omega)
  simp only [hexs,List.getElem?_cons_succ,this]
  rfl
theorem hexs_take (bs : List UInt8) (k : Nat) (h : 2 * k + 1 < bs.length) : ((hexs bs).map strc).take (k + 1) = ((hexs bs).map strc).take k ++ [strc (hex4 (bs[2 * k].toNat * 256 + bs[2 * k + 1].toNat))] := by
 rw [List.take_add_one,List.getElem?_map,hexs_at bs k h]
 rfl
theorem join_hexs (s : UInt8) (bs : List UInt8) (m : Nat) (h : bs.length = 2 * m) (hm : m ≤ 8) : (join s (hexs bs)).length ≤ 64 := by
 have h4 : ∀ bs : List UInt8,∀ a ∈ hexs bs,a.length ≤ 4 := by
  intro bs
  induction bs using hexs.induct with
  | case1 a b r ih =>
   intro x hx
   simp only [hexs,List.mem_cons] at hx
   rcases hx with rfl | hx
   ·exact Nat.le_refl _
   ·exact ih x hx
  | case2 t ht => intro x hx;unfold hexs at hx;split at hx <;> simp_all
 have := join_len s (hexs bs) 4 (h4 bs)
 rw [hexs_len bs m h] at this
 omega
theorem hexd_index (q d : Nat) (hq : q < 16) (hd : (hexd q).toNat = d) (w : World) : (Instr.index 9 (.string ⟨#[48,49,50,51,52,53,54,55,56,57,97,98,99,100,101,102]⟩) (.int .u8 (q : Int))).run Tryz.prog w = .ok (.int .u8 (d : Int)) w := by
 have h1 : (q : Int) < 16 := by omega
 have h2 : (0 : Int) ≤ (q : Int) := by omega
 subst hd
 go_simp
 have h : q = 0 ∨ q = 1 ∨ q = 2 ∨ q = 3 ∨ q = 4 ∨ q = 5 ∨ q = 6 ∨ q = 7 ∨ q = 8 ∨ q = 9 ∨ q = 10 ∨ q = 11 ∨ q = 12 ∨ q = 13 ∨ q = 14 ∨ q = 15 := by omega
 rcases h with rfl | rfl | rfl | rfl | rfl | rfl | rfl | rfl | rfl | rfl | rfl | rfl | rfl | rfl | rfl | rfl <;> rfl
theorem and15 (x : Nat) (h : x < 256) : bits .and .u8 (x : Int) 15 = ((x % 16 : Nat) : Int) := by
 have := u8_and15 (x := (x : Int)) (by omega) (by omega)
 rw [this];simp
theorem cell_two_new (w : World) (o : Obj) (v : Value) (t : TypeId) : ∀ j u,[v][j]? = some u → ((w.alloc o).alloc (.cells #[v] t)).cell? ((⟨w.heap.size + 1,0,none⟩ : Addr).add j) = some u := by
 have := cell_one_new (w.alloc o) v t
 rwa [World.size_alloc] at this
theorem keepXY {W W0 : World} {b o p x y : Nat} (ob : Obj) (h : W.cell? ⟨b,o,none⟩ = some (.int .u8 x) ∧ W.cell? ⟨b,p,none⟩ = some (.int .u8 y) ∧ Below W0.heap.size W0 W) :
  (W.alloc ob).cell? ⟨b,o,none⟩ = some (.int .u8 x) ∧ (W.alloc ob).cell? ⟨b,p,none⟩ = some (.int .u8 y) ∧ Below W0.heap.size W0 (W.alloc ob) :=
 ⟨keepc (one _ _) h.1,keepc (one _ _) h.2.1,h.2.2.alloc h.2.2.size ob⟩
set_option maxRecDepth 20000 in
set_option maxHeartbeats 4000000 in
theorem printaddr_hex (f : Int) (hf : (f == 4) = false) (hi lo m : Nat) (w : World) (hh : hi < 18446744073709551616) (hl : lo < 18446744073709551616) (HM : Hid ((paB f hi lo).length = 2 * m)) (hm : m ≤ 8) :
  Calls Tryz.prog 158 #[.agg #[.int .i64 f,.int .u64 hi,.int .u64 lo]] w fun e w' => e = .returned (strc (join 58 (hexs (paB f hi lo)))) ∧ Below w.heap.size w w' := by
 obtain ⟨i0,hi0,hz0,hz1,hz2⟩ := info_parts Tryz.infoS
 have ha := ab_new w f hi lo 88
 have hbl := one w (.cells #[.int .i64 f,.int .u64 hi,.int .u64 lo] 88)
 obtain ⟨bs,hbs⟩ : ∃ bs,paB f hi lo = bs := ⟨_,rfl⟩
 rw [hbs] at HM
 have HBS := Lib.hid hbs
 rw [hbs]
 clear hbs
 obtain ⟨n,hn⟩ : ∃ n,bs.length = n := ⟨_,rfl⟩
 have HN := Lib.hid hn
 have hn16 : n ≤ 16 := by rw [← hn,HM.out];omega
 clear hn
 go_enter Tryz.func158,Tryz.ntmps158
 go_wp2_with fail
 refine (putaddr_any f hi lo _ hh hl).mono ?_
 rintro e w1 ⟨v1,rfl,hown1,hb1⟩
 rw [HBS.out,HN.out] at hown1
 obtain ⟨A,c,rfl⟩ := own_slice hown1
 have hs1 := own_shows hown1
 have ha1 := ha.on hb1
 have hbl1 := hbl.trans (hb1.mono hbl.size)
 clear ha hbl hb1 hown1
 obtain ⟨a0,a1,a2⟩ := ha1
 go_wp2
 go_loopw [4,7] (fun v i wr => ∃ k j : Nat,j ≤ n ∧ Hid (j = 2 * k) ∧ i = .int .i64 j ∧ wr.ownsRow w1.heap.size 9 1 v k (((hexs bs).map strc).take k) ∧ Below w1.heap.size w1 wr) (fun _ i _ => n - (intOf i).toNat)
 case atStart => exact ⟨0,0,Nat.zero_le _,rfl,rfl,World.ownsRow_nil _ _ _ _,Below.refl _ _⟩
 case round =>
  obtain ⟨k,j,hk,HJ,rfl,hown,hbk⟩ := hrel
  have hs := hs1.below hbk
  clear a0 a1 a2
  by_cases hlt : j < n
  ·have hlt2 : j + 1 < n := by have := HJ.out;have := HN.out;have := HM.out;omega
   obtain ⟨b,o,rfl,hb2,hc⟩ := hs (by rw [HN.out];omega)
   have c0 := hc j _ (List.getElem?_eq_getElem (by rw [HN.out];exact hlt))
   have c1 := hc (j + 1) _ (List.getElem?_eq_getElem (by rw [HN.out];exact hlt2))
   clear hc
   have hsn : ((hexs bs).map strc).take (k + 1) = ((hexs bs).map strc).take k ++ [strc (hex4 ((bs[j]'(by rw [HN.out];exact hlt)).toNat * 256 + (bs[j + 1]'(by rw [HN.out];exact hlt2)).toNat))] := by
    have e := HJ.out
    subst e
    exact hexs_take bs k (by rw [HN.out];exact hlt2)
   obtain ⟨x,hx⟩ : ∃ x : Nat,(bs[j]'(by rw [HN.out];exact hlt)).toNat = x := ⟨_,rfl⟩
   obtain ⟨y,hy⟩ : ∃ y : Nat,(bs[j + 1]'(by rw [HN.out];exact hlt2)).toNat = y := ⟨_,rfl⟩
   have hx2 : x < 256 := by rw [← hx];exact UInt8.toNat_lt _
   have hy2 : y < 256 := by rw [← hy];exact UInt8.toNat_lt _
   unfold cel at c0 c1
   rw [hx,hy] at hsn
   rw [hx] at c0
   rw [hy] at c1
   have HSN := Lib.hid hsn
   clear hsn hx hy
   have i1 : (j : Int) < (n : Int) := by omega
   have i2 : (j : Int) + 1 < (n : Int) := by omega
   have i3 : (n : Int) ≤ 16 := by omega
   have iw : IntKind.i64.wrap ((j : Int) + 1) = (j : Int) + 1 := IntWalk.i64_in _ ⟨by omega,by omega⟩
   have iz : (0 : Int) ≤ (j : Int) + 1 := by omega
   obtain ⟨qa,hqa⟩ : ∃ q : Nat,x / 16 = q := ⟨_,rfl⟩
   obtain ⟨ra,hra⟩ : ∃ q : Nat,x % 16 = q := ⟨_,rfl⟩
   obtain ⟨qb,hqb⟩ : ∃ q : Nat,y / 16 = q := ⟨_,rfl⟩
   obtain ⟨rb,hrb⟩ : ∃ q : Nat,y % 16 = q := ⟨_,rfl⟩
   have e1 : (x : Int) / 16 = (qa : Int) := by omega
   have e2 : bits .and .u8 (x : Int) 15 = (ra : Int) := by rw [and15 x hx2,hra]
   have e3 : (y : Int) / 16 = (qb : Int) := by omega
   have e4 : bits .and .u8 (y : Int) 15 = (rb : Int) := by rw [and15 y hy2,hrb]
   obtain ⟨da,hda⟩ : ∃ d : Nat,(hexd qa).toNat = d := ⟨_,rfl⟩
   obtain ⟨db,hdb⟩ : ∃ d : Nat,(hexd ra).toNat = d := ⟨_,rfl⟩
   obtain ⟨dc,hdc⟩ : ∃ d : Nat,(hexd qb).toNat = d := ⟨_,rfl⟩
   obtain ⟨dd,hdd⟩ : ∃ d : Nat,(hexd rb).toNat = d := ⟨_,rfl⟩
   have f1 := hexd_index qa da (by omega) hda
   have f2 := hexd_index ra db (by omega) hdb
   have f3 := hexd_index qb dc (by omega) hdc
   have f4 := hexd_index rb dd (by omega) hdd
   have ht : hex4 (x * 256 + y) = [hexd qa,hexd ra,hexd qb,hexd rb] := by
    simp only [hex4]
    rw [show (x * 256 + y) / 4096 % 16 = qa by omega,show (x * 256 + y) / 256 % 16 = ra by omega,show (x * 256 + y) / 16 % 16 = qb by omega,show (x * 256 + y) % 16 = rb by omega]
   have HT := Lib.hid ht
   have HC := Lib.hid (show [hexd qa,hexd ra,hexd qb,hexd rb].map cel = [.int .u8 da,.int .u8 db,.int .u8 dc,.int .u8 dd] by simp [cel,hda,hdb,hdc,hdd])
   clear hqa hra hqb hrb ht hda hdb hdc hdd
   have hcv : ∀ wd : World,(convert 85 9 (.slice (some ⟨wd.heap.size,0,none⟩) 4 4)).run Tryz.prog (wd.alloc (.cells #[.int .u8 da,.int .u8 db,.int .u8 dc,.int .u8 dd] 5)) = .ok (.string ⟨(hex4 (x * 256 + y)).toArray⟩) (wd.alloc (.cells #[.int .u8 da,.int .u8 db,.int .u8 dc,.int .u8 dd] 5)) := by
    intro wd
    rw [HT.out]
    exact run_convert_bytes_back (P := Tryz.prog) (wd.alloc (.cells #[.int .u8 da,.int .u8 db,.int .u8 dc,.int .u8 dd] 5)) 85 9 5 ⟨wd.heap.size,0,none⟩ 4 [hexd qa,hexd ra,hexd qb,hexd rb] Tryz.underlying85 Tryz.underlying5 Tryz.underlying9 (fun j hj => by
    have := cells_new wd #[.int .u8 da,.int .u8 db,.int .u8 dc,.int .u8 dd] 5 j (cel [hexd qa,hexd ra,hexd qb,hexd rb][j]) (by
     show ([.int .u8 da,.int .u8 db,.int .u8 dc,.int .u8 dd] : List Value)[j]? = _
     rw [← HC.out,List.getElem?_map,List.getElem?_eq_getElem hj]
     rfl)
    exact this)
   obtain ⟨tx,htx⟩ : ∃ tx : List UInt8,hex4 (x * 256 + y) = tx := ⟨_,rfl⟩
   rw [htx] at hcv
   have HTX := Lib.hid htx
   clear htx
   go_upto_region 13 with fail
   have hownd := own_on hown (Below.refl _ _).drew
   have hbkd := hbk.drew
   have c0d := keepc (Below.refl _ _).drew c0
   have c1d := keepc (Below.refl _ _).drew c1
   have C0 := Lib.hid ((hbk.cell (p := ⟨b,o + j,none⟩) hb2).symm.trans c0)
   have C1 := Lib.hid ((hbk.cell (p := ⟨b,o + (j + 1),none⟩) hb2).symm.trans c1)
   clear hown hbk c0 c1
   refine wp_region_noPanic ?_
   refine wp_region_held_drew (S := fun W => W.cell? ⟨b,o + j,none⟩ = some (.int .u8 x) ∧ W.cell? ⟨b,o + (j + 1),none⟩ = some (.int .u8 y) ∧ Below w1.heap.size w1 W) (by kernel_rfl) ⟨c0d,c1d,hbkd⟩ (fun hHeld => ?_)
   generalize wr.drew = wd at hownd hbkd c0d c1d hHeld ⊢
   refine wpAnyH_take (i := 0) (v := ?_) rfl (by kernel_rfl) (by kernel_rfl) (by kernel_rfl) (fun _ _ _ h => h) (Or.inl ⟨by rfl,?_⟩) (by assumption) ?_
   rotate_left
   ·intro w hSw
    obtain ⟨g0,g1,-⟩ := hSw
    go_simp
    try with_reducible rfl
   simp only [Act.put,List.setIfInBounds_toArray,List.set_cons_zero,List.set_cons_succ]
   refine wpAnyH_take (i := 1) (v := ?_) rfl (by kernel_rfl) (by kernel_rfl) (by kernel_rfl) (fun _ _ _ h => h) (Or.inl ⟨by rfl,?_⟩) (by assumption) ?_
   rotate_left
   ·intro w hSw
    obtain ⟨g0,g1,-⟩ := hSw
    go_simp
    try with_reducible rfl
   simp only [Act.put,List.setIfInBounds_toArray,List.set_cons_zero,List.set_cons_succ]
   refine wpAnyH_take (i := 2) (v := ?_) rfl (by kernel_rfl) (by kernel_rfl) (by kernel_rfl) (fun _ _ _ h => h) (Or.inl ⟨by rfl,?_⟩) (by assumption) ?_
   rotate_left
   ·intro w hSw
    obtain ⟨g0,g1,-⟩ := hSw
    go_simp
    try with_reducible rfl
   simp only [Act.put,List.setIfInBounds_toArray,List.set_cons_zero,List.set_cons_succ]
   refine wpAnyH_take (i := 3) (v := ?_) rfl (by kernel_rfl) (by kernel_rfl) (by kernel_rfl) (fun _ _ _ h => h) (Or.inl ⟨by rfl,?_⟩) (by assumption) ?_
   rotate_left
   ·intro w hSw
    obtain ⟨g0,g1,-⟩ := hSw
    go_simp
    try with_reducible rfl
   simp only [Act.put,List.setIfInBounds_toArray,List.set_cons_zero,List.set_cons_succ]
   refine wpAnyH_take (i := 4) (v := ?_) rfl (by kernel_rfl) (by kernel_rfl) (by kernel_rfl) (fun _ _ _ h => h) (Or.inl ⟨by rfl,?_⟩) (by assumption) ?_
   rotate_left
   ·intro w hSw
    obtain ⟨g0,g1,-⟩ := hSw
    go_simp
    try with_reducible rfl
   simp only [Act.put,List.setIfInBounds_toArray,List.set_cons_zero,List.set_cons_succ]
   refine wpAnyH_take (i := 5) (v := ?_) rfl (by kernel_rfl) (by kernel_rfl) (by kernel_rfl) (fun _ _ _ h => h) (Or.inl ⟨by rfl,?_⟩) (by assumption) ?_
   rotate_left
   ·intro w hSw
    obtain ⟨g0,g1,-⟩ := hSw
    go_simp
    try with_reducible rfl
   simp only [Act.put,List.setIfInBounds_toArray,List.set_cons_zero,List.set_cons_succ]
   refine wpAnyH_take (i := 6) (v := ?_) rfl (by kernel_rfl) (by kernel_rfl) (by kernel_rfl) (fun _ _ _ h => h) (Or.inl ⟨by rfl,?_⟩) (by assumption) ?_
   rotate_left
   ·intro w hSw
    obtain ⟨g0,g1,-⟩ := hSw
    go_simp
    try with_reducible rfl
   simp only [Act.put,List.setIfInBounds_toArray,List.set_cons_zero,List.set_cons_succ]
   refine wpAnyH_take (i := 7) (v := ?_) rfl (by kernel_rfl) (by kernel_rfl) (by kernel_rfl) (fun _ _ _ h => h) (Or.inl ⟨by rfl,?_⟩) (by assumption) ?_
   rotate_left
   ·intro w hSw
    obtain ⟨g0,g1,-⟩ := hSw
    go_simp
    try with_reducible rfl
   simp only [Act.put,List.setIfInBounds_toArray,List.set_cons_zero,List.set_cons_succ]
   refine wpAnyH_take (i := 8) (v := ?_) rfl (by kernel_rfl) (by kernel_rfl) (by kernel_rfl) (fun _ _ _ h => h) (Or.inl ⟨by rfl,?_⟩) (by assumption) ?_
   rotate_left
   ·intro w hSw
    obtain ⟨g0,g1,-⟩ := hSw
    go_simp
    try with_reducible rfl
   simp only [Act.put,List.setIfInBounds_toArray,List.set_cons_zero,List.set_cons_succ]
   refine wpAnyH_take (i := 9) (v := ?_) rfl (by kernel_rfl) (by kernel_rfl) (by kernel_rfl) (fun _ _ _ h => h) (Or.inl ⟨by rfl,?_⟩) (by assumption) ?_
   rotate_left
   ·intro w hSw
    obtain ⟨g0,g1,-⟩ := hSw
    go_simp
    try with_reducible rfl
   simp only [Act.put,List.setIfInBounds_toArray,List.set_cons_zero,List.set_cons_succ]
   refine wpAnyH_take (i := 10) (v := ?_) rfl (by kernel_rfl) (by kernel_rfl) (by kernel_rfl) (fun _ _ _ h => h) (Or.inl ⟨by rfl,?_⟩) (by assumption) ?_
   rotate_left
   ·intro w hSw
    obtain ⟨g0,g1,-⟩ := hSw
    go_simp
    try with_reducible rfl
   simp only [Act.put,List.setIfInBounds_toArray,List.set_cons_zero,List.set_cons_succ]
   refine wpAnyH_take (i := 11) (v := ?_) rfl (by kernel_rfl) (by kernel_rfl) (by kernel_rfl) (fun _ _ _ h => h) (Or.inl ⟨by rfl,?_⟩) (by assumption) ?_
   rotate_left
   ·intro w hSw
    obtain ⟨g0,g1,-⟩ := hSw
    go_simp
    try with_reducible rfl
   simp only [Act.put,List.setIfInBounds_toArray,List.set_cons_zero,List.set_cons_succ]
   refine wpAnyH_take (i := 12) (v := ?_) rfl (by kernel_rfl) (by kernel_rfl) (by kernel_rfl) (fun _ _ _ h => h) (Or.inl ⟨by rfl,?_⟩) (by assumption) ?_
   rotate_left
   ·intro w hSw
    obtain ⟨g0,g1,-⟩ := hSw
    go_simp
    try with_reducible rfl
   simp only [Act.put,List.setIfInBounds_toArray,List.set_cons_zero,List.set_cons_succ]
   refine wpAnyH_take (i := 13) (v := ?_) rfl (by kernel_rfl) (by kernel_rfl) (by kernel_rfl) (fun _ _ _ h => h) (Or.inl ⟨by rfl,?_⟩) (by assumption) ?_
   rotate_left
   ·intro w hSw
    obtain ⟨g0,g1,-⟩ := hSw
    go_simp
    try with_reducible rfl
   simp only [Act.put,List.setIfInBounds_toArray,List.set_cons_zero,List.set_cons_succ]
   refine wpAnyH_take (i := 14) (v := ?_) rfl (by kernel_rfl) (by kernel_rfl) (by kernel_rfl) (fun _ _ _ h => h) (Or.inl ⟨by rfl,?_⟩) (by assumption) ?_
   rotate_left
   ·intro w hSw
    obtain ⟨g0,g1,-⟩ := hSw
    go_simp
    try with_reducible rfl
   simp only [Act.put,List.setIfInBounds_toArray,List.set_cons_zero,List.set_cons_succ]
   refine wpAnyH_take (i := 15) (v := ?_) rfl (by kernel_rfl) (by kernel_rfl) (by kernel_rfl) (fun _ _ _ h => h) (Or.inl ⟨by rfl,?_⟩) (by assumption) ?_
   rotate_left
   ·intro w hSw
    obtain ⟨g0,g1,-⟩ := hSw
    go_simp
    try with_reducible rfl
   simp only [Act.put,List.setIfInBounds_toArray,List.set_cons_zero,List.set_cons_succ]
   refine wpAnyH_take (i := 16) (v := ?_) rfl (by kernel_rfl) (by kernel_rfl) (by kernel_rfl) (fun _ _ _ h => h) (Or.inl ⟨by rfl,?_⟩) (by assumption) ?_
   rotate_left
   ·intro w hSw
    obtain ⟨g0,g1,-⟩ := hSw
    go_simp
    try with_reducible rfl
   simp only [Act.put,List.setIfInBounds_toArray,List.set_cons_zero,List.set_cons_succ]
   refine wpAnyH_take (i := 17) (v := ?_) rfl (by kernel_rfl) (by kernel_rfl) (by kernel_rfl) (fun _ _ _ h => h) (Or.inl ⟨by rfl,?_⟩) (by assumption) ?_
   rotate_left
   ·intro w hSw
    obtain ⟨g0,g1,-⟩ := hSw
    go_simp
    try with_reducible rfl
   simp only [Act.put,List.setIfInBounds_toArray,List.set_cons_zero,List.set_cons_succ]
   refine wpAnyH_take (i := 18) (v := ?_) rfl (by kernel_rfl) (by kernel_rfl) (by kernel_rfl) (fun _ _ _ h => h) (Or.inl ⟨by rfl,?_⟩) (by assumption) ?_
   rotate_left
   ·intro w hSw
    obtain ⟨g0,g1,-⟩ := hSw
    go_simp
    try with_reducible rfl
   simp only [Act.put,List.setIfInBounds_toArray,List.set_cons_zero,List.set_cons_succ]
   refine wpAnyH_take (i := 19) (v := ?_) rfl (by kernel_rfl) (by kernel_rfl) (by kernel_rfl) (fun _ _ _ h => h) (Or.inl ⟨by rfl,?_⟩) (by assumption) ?_
   rotate_left
   ·intro w hSw
    obtain ⟨g0,g1,-⟩ := hSw
    go_simp
    try with_reducible rfl
   simp only [Act.put,List.setIfInBounds_toArray,List.set_cons_zero,List.set_cons_succ]
   refine wpAnyH_take (i := 20) (v := ?_) rfl (by kernel_rfl) (by kernel_rfl) (by kernel_rfl) (fun _ _ _ h => h) (Or.inl ⟨by rfl,?_⟩) (by assumption) ?_
   rotate_left
   ·intro w hSw
    obtain ⟨g0,g1,-⟩ := hSw
    go_simp
    try with_reducible rfl
   simp only [Act.put,List.setIfInBounds_toArray,List.set_cons_zero,List.set_cons_succ]
   refine wpAnyH_take (i := 21) (v := ?_) rfl (by kernel_rfl) (by kernel_rfl) (by kernel_rfl) (fun _ _ _ h => h) (Or.inl ⟨by rfl,?_⟩) (by assumption) ?_
   rotate_left
   ·intro w hSw
    obtain ⟨g0,g1,-⟩ := hSw
    go_simp
    try with_reducible rfl
   simp only [Act.put,List.setIfInBounds_toArray,List.set_cons_zero,List.set_cons_succ]
   refine wpAnyH_take (i := 22) (v := ?_) rfl (by kernel_rfl) (by kernel_rfl) (by kernel_rfl) (fun _ _ _ h => h) (Or.inl ⟨by rfl,?_⟩) (by assumption) ?_
   rotate_left
   ·intro w hSw
    obtain ⟨g0,g1,-⟩ := hSw
    go_simp
    try with_reducible rfl
   simp only [Act.put,List.setIfInBounds_toArray,List.set_cons_zero,List.set_cons_succ]
   refine wpAnyH_take (i := 23) (v := ?_) rfl (by kernel_rfl) (by kernel_rfl) (by kernel_rfl) (fun _ _ _ h => h) (Or.inl ⟨by rfl,?_⟩) (by assumption) ?_
   rotate_left
   ·intro w hSw
    obtain ⟨g0,g1,-⟩ := hSw
    go_simp
    try with_reducible rfl
   simp only [Act.put,List.setIfInBounds_toArray,List.set_cons_zero,List.set_cons_succ]
   refine wpAnyH_take (i := 24) (v := ?_) rfl (by kernel_rfl) (by kernel_rfl) (by kernel_rfl) (fun _ _ _ h => h) (Or.inl ⟨by rfl,?_⟩) (by assumption) ?_
   rotate_left
   ·intro w hSw
    obtain ⟨g0,g1,-⟩ := hSw
    go_simp
    try with_reducible rfl
   simp only [Act.put,List.setIfInBounds_toArray,List.set_cons_zero,List.set_cons_succ]
   refine wpAnyH_take (i := 25) (v := ?_) rfl (by kernel_rfl) (by kernel_rfl) (by kernel_rfl) (fun _ _ _ h => h) (Or.inl ⟨by rfl,?_⟩) (by assumption) ?_
   rotate_left
   ·intro w hSw
    obtain ⟨g0,g1,-⟩ := hSw
    go_simp
    try with_reducible rfl
   simp only [Act.put,List.setIfInBounds_toArray,List.set_cons_zero,List.set_cons_succ]
   refine wpAnyH_take (i := 26) (v := ?_) rfl (by kernel_rfl) (by kernel_rfl) (by kernel_rfl) (fun _ _ _ h => h) (Or.inl ⟨by rfl,?_⟩) (by assumption) ?_
   rotate_left
   ·intro w hSw
    obtain ⟨g0,g1,-⟩ := hSw
    go_simp
    try with_reducible rfl
   simp only [Act.put,List.setIfInBounds_toArray,List.set_cons_zero,List.set_cons_succ]
   clear f1 f2 f3 f4 e1 e2 e3 e4
   refine wpAnyH_ready (rs := [27]) (by kernel_rfl) (by simp) (AllReadyH.cons rfl (fun K hK => ?_) AllReadyH.nil)
   go_simp
   refine hK.out _ _ (keepXY _ hHeld) (fun hHeld => ?_)
   clear hK K
   try simp only [Act.put,List.setIfInBounds_toArray,List.set_cons_zero,List.set_cons_succ]
   refine wpAnyH_ready (rs := [28]) (by kernel_rfl) (by simp) (AllReadyH.cons rfl (fun K hK => ?_) AllReadyH.nil)
   go_simp
   refine hK.out _ _ hHeld (fun hHeld => ?_)
   clear hK K
   try simp only [Act.put,List.setIfInBounds_toArray,List.set_cons_zero,List.set_cons_succ]
   refine wpAnyH_ready (rs := [29]) (by kernel_rfl) (by simp) (AllReadyH.cons rfl (fun K hK => ?_) AllReadyH.nil)
   go_simp
   refine hK.out _ _ (keepXY _ hHeld) (fun hHeld => ?_)
   clear hK K
   try simp only [Act.put,List.setIfInBounds_toArray,List.set_cons_zero,List.set_cons_succ]
   refine wpAnyH_ready (rs := [30]) (by kernel_rfl) (by simp) (AllReadyH.cons rfl (fun K hK => ?_) AllReadyH.nil)
   refine step_append_lies _ (by rfl) (.tmp 34) (.tmp 63) 37 (by rfl) w1.heap.size 9 i0 (.string ⟨#[]⟩) 1 16 Tryz.underlying37 hi0 hz0 hz1 hz2 rfl (by decide) _ k _ (by rfl) ((hownd.alloc _).alloc _) ⟨wd.heap.size + 1,0,none⟩ 1 1 [.string ⟨tx.toArray⟩] (by rfl) rfl (cell_two_new _ _ _ _) (by intro u hu;simp at hu;subst hu;rfl) (by omega) (by have := HJ.out;unfold maxLen;omega) (by have := HJ.out;omega) (by have := hbkd.size;simp;omega) _ rfl ?_
   intro g cap w3 hown' hgrow hat hlt3
   have hbk3 := ((hbkd.alloc hbkd.size _).alloc (by have := hbkd.size;simp;omega) _).grown hgrow (by have := hbkd.size;simp;omega) (fun j hj => (hownd.lt j hj).1)
   refine hK.out _ _ ⟨(hbk3.cell (p := ⟨b,o + j,none⟩) hb2).trans C0.out,(hbk3.cell (p := ⟨b,o + (j + 1),none⟩) hb2).trans C1.out,hbk3⟩ (fun hHeld => ?_)
   clear hK K
   try simp only [Act.put,List.setIfInBounds_toArray,List.set_cons_zero,List.set_cons_succ]
   refine wpAnyH_take (i := 31) (v := ?_) rfl (by kernel_rfl) (by kernel_rfl) (by kernel_rfl) (fun _ _ _ h => h) (Or.inl ⟨by rfl,?_⟩) (by assumption) ?_
   rotate_left
   ·intro w hSw
    go_simp
    try with_reducible rfl
   simp only [Act.put,List.setIfInBounds_toArray,List.set_cons_zero,List.set_cons_succ]
   refine wpAnyH_done (by kernel_rfl) ?_ _
   refine NoPanic.normal ?_
   clear hownd hgrow hbkd hcv c0d c1d
   go_wp2
   go_roundw
   case rel => exact ⟨k + 1,j + 2,by omega,Lib.hid (by have := HJ.out;omega),by go_num,by rw [HSN.out,HTX.out];exact hown',hbk3⟩
   case measure => simp [intOf];omega
  ·obtain rfl : j = n := by omega
   have hkm : k = m := by have := HJ.out;have := HN.out;have := HM.out;omega
   have hl := hexs_len bs m HM.out
   rw [List.take_of_length_le (by rw [List.length_map,hl];omega)] at hown
   have HL := Lib.hid hl
   clear hl
   clear hkm
   go_wp2_with fail
   refine (join_own 58 (hexs bs) hown (by rw [HL.out];omega) (Nat.le_trans (join_hexs 58 bs m HM.out hm) (by omega))).mono ?_
   rintro e w2 ⟨rfl,hb3⟩
   have hbk2 := hbl1.trans ((hbk.trans (hb3.mono hbk.size)).mono hbl1.size)
   unfold strc
   go_wp2
   go_ret
   exact ⟨rfl,hbk2⟩
end Go.Proofs.YtpkmekdpmkfcdaaGreatDoor.Pf
