/- The walk of the statement on memory: what Parse and ParseChanges answer is new memory, each time. -/
import Derived.Test.YtpkmekdpmkfcdaaGreatDoorKbU
import Derived.Test.YtpkmekdpmkfcdaaGreatDoorSmI
namespace Go.Proofs.YtpkmekdpmkfcdaaGreatDoor.Kb
set_option linter.unusedVariables false
set_option linter.unusedSimpArgs false
open Go.RowKit Go.Proofs.YtpkmekdpmkfcdaaGreatDoor.Wd Go.Proofs.YtpkmekdpmkfcdaaGreatDoor.Px Go.Proofs.YtpkmekdpmkfcdaaGreatDoor.By Go.Proofs.YtpkmekdpmkfcdaaGreatDoor.Pf Go.Proofs.YtpkmekdpmkfcdaaGreatDoor.Sc Go.Proofs.YtpkmekdpmkfcdaaGreatDoor.En
open Go.Proofs.YtpkmekdpmkfcdaaGreatDoor.Sr (own_same own_kind own_low CRow ORow OpO Opv Und fltC Lim LimO chC opC nl ParseR ListR parse_any parsec_any fst_any scr_same changes_same parse_lim Tabs wds_len wds_le chgs_lim Blk)
/-- the zero book's cells -/
def bkz : Array Value := #[.int .i64 0,.int .i64 0,.slice none 0 0,.slice none 0 0,.slice none 0 0,.slice none 0 0,.slice none 0 0,.slice none 0 0,.slice none 0 0,.slice none 0 0,.slice none 0 0,.slice none 0 0,.slice none 0 0,.slice none 0 0,.slice none 0 0,.slice none 0 0,.slice none 0 0,.slice none 0 0,.slice none 0 0,.slice none 0 0,.slice none 0 0,.slice none 0 0,.slice none 0 0,.slice none 0 0,.slice none 0 0,.slice none 0 0,.slice none 0 0,.slice none 0 0,.slice none 0 0,.slice none 0 0,.slice none 0 0,.slice none 0 0,.slice none 0 0,.slice none 0 0,.slice none 0 0,.slice none 0 0,.slice none 0 0,.slice none 0 0,.slice none 0 0,.slice none 0 0,.slice none 0 0,.slice none 0 0,.slice none 0 0,.slice none 0 0,.slice none 0 0,.slice none 0 0,.slice none 0 0,.slice none 0 0,.slice none 0 0,.slice none 0 0,.slice none 0 0,.slice none 0 0,.slice none 0 0]
set_option maxRecDepth 20000 in
theorem bd_book (w : World) : (Instr.build 57 #[]).run Tryz.prog w = .ok (.agg bkz) w := run_build w _ #[] _ (by kernel_rfl)
theorem wpList_bk {ops : Array Oper} {rest : List Oper} {o : Oper} {a : Act} {Q : Exit → Act → World → Prop} {W : World} (hgd : o.guard = none) (ho : o.op = .build 57 #[])
  (h : wpList Tryz.prog ops Q rest (a.put o.dst (.agg bkz)) W) : wpList Tryz.prog ops Q (o :: rest) a W := by
 refine wpList_plain hgd fun K hK => ?_
 unfold Oper.wp execOp
 simp only [ho,Sem.run_bind,List.map_toArray,List.map_nil,bd_book,Result.andThen_ok]
 exact hK _ _ h
theorem bkz_nil (o : Nat) (h1 : 2 ≤ o) (h2 : o < 53) : bkz[o]? = some (.slice none 0 0) := by
 have h : o = 2 ∨ o = 3 ∨ o = 4 ∨ o = 5 ∨ o = 6 ∨ o = 7 ∨ o = 8 ∨ o = 9 ∨ o = 10 ∨ o = 11 ∨ o = 12 ∨ o = 13 ∨ o = 14 ∨ o = 15 ∨ o = 16 ∨ o = 17 ∨ o = 18 ∨ o = 19 ∨ o = 20 ∨ o = 21 ∨ o = 22 ∨ o = 23 ∨ o = 24 ∨ o = 25 ∨ o = 26 ∨ o = 27 ∨ o = 28 ∨ o = 29 ∨ o = 30 ∨ o = 31 ∨ o = 32 ∨ o = 33 ∨ o = 34 ∨ o = 35 ∨ o = 36 ∨ o = 37 ∨ o = 38 ∨ o = 39 ∨ o = 40 ∨ o = 41 ∨ o = 42 ∨ o = 43 ∨ o = 44 ∨ o = 45 ∨ o = 46 ∨ o = 47 ∨ o = 48 ∨ o = 49 ∨ o = 50 ∨ o = 51 ∨ o = 52 := by omega
 rcases h with rfl | rfl | rfl | rfl | rfl | rfl | rfl | rfl | rfl | rfl | rfl | rfl | rfl | rfl | rfl | rfl | rfl | rfl | rfl | rfl | rfl | rfl | rfl | rfl | rfl | rfl | rfl | rfl | rfl | rfl | rfl | rfl | rfl | rfl | rfl | rfl | rfl | rfl | rfl | rfl | rfl | rfl | rfl | rfl | rfl | rfl | rfl | rfl | rfl | rfl | rfl <;> rfl
def st0 : St := ⟨[],[],[],[],[]⟩
set_option maxRecDepth 20000 in
theorem bka_new (w : World) (t : TypeId) : BkA (w.heap.size + 1) w.heap.size st0 (w.alloc (.cells bkz t)) := by
 have hc : ∀ o,(w.alloc (.cells bkz t)).cell? ⟨w.heap.size,o,none⟩ = bkz[o]? := fun o => cell_of_row _ w.heap.size o _ _ _ (heap_alloc_new w _)
 have hn : ∀ o,2 ≤ o → o < 53 → (w.alloc (.cells bkz t)).cell? ⟨w.heap.size,o,none⟩ = some (.slice none 0 0) := fun o h1 h2 => (hc o).trans (bkz_nil o h1 h2)
 have hp : ∀ (κ : Kin),2 ≤ κ.o → κ.o + 2 < 53 → ∃ v0 v1,Hp κ (w.heap.size + 1) w.heap.size v0 v1 [] [] (w.alloc (.cells bkz t)) := fun κ h1 h2 =>
  ⟨_,_,hn _ h1 (by omega),hn _ (by omega) (by omega),hn _ (by omega) h2,World.ownsRow_nil _ _ _ _,World.ownsRow_nil _ _ _ _,fun g hg => by simp [Value.ownBlock] at hg⟩
 exact ⟨by omega,by simp,⟨(hc 0).trans rfl,(hc 1).trans rfl,fun o h => hn o (by rcases h with h | h | h <;> omega) (by rcases h with h | h | h <;> omega),fun o => frozen_of_row _ _ _ _ _ (heap_alloc_new w _)⟩,hp kB (by decide) (by decide),hp kL (by decide) (by decide),hp kC (by decide) (by decide),hp kF (by decide) (by decide),hp kO (by decide) (by decide),
  fun i hi => by simp [st0] at hi,fun i hi => by simp [st0] at hi,fun i hi => by simp [st0] at hi,fun i hi => by simp [st0] at hi,fun i hi => by simp [st0] at hi,Sr.Apt.nil,Sr.Apt.nil,Sr.Apt.nil,Sr.Apt.nil,Sr.Apt.nil⟩
theorem BkA.tps {B K : Nat} {s : St} {W : World} (h : BkA B K s W) : TpS s W.heap.size :=
 ⟨fun v hv g hg => by obtain ⟨i,hi,rfl⟩ := List.mem_map.1 hv;exact ((h.rb i hi).1.1.lt g hg).2,fun v hv g hg => by obtain ⟨i,hi,rfl⟩ := List.mem_map.1 hv;exact ((h.rl i hi).1.1.lt g hg).2,
  fun v hv g hg => by obtain ⟨i,hi,rfl⟩ := List.mem_map.1 hv;obtain ⟨⟨k,r⟩,-⟩ := (h.rc i hi).1;exact (r.row.lt g hg).2,fun v hv g hg => by obtain ⟨i,hi,rfl⟩ := List.mem_map.1 hv;exact ((h.rf i hi).1.1.lt g hg).2,
  fun v hv g hg => by obtain ⟨i,hi,rfl⟩ := List.mem_map.1 hv;obtain ⟨⟨k,r⟩,-⟩ := (h.ro i hi).1;exact (r.row.lt g hg).2⟩
def chsOf : Except Int (List Chg) → List Chg
 | .ok l => l
 | .error _ => []
theorem parseC_lim {t : List UInt8} : (∀ c ∈ chsOf (parseC t),Lim c) ∧ (chsOf (parseC t)).length ≤ 2000000 := by
 cases h : parseC t with
 | error x => exact ⟨fun c hc => by simp [chsOf] at hc,by simp [chsOf]⟩
 | ok l =>
  unfold parseC at h
  split at h
  ·cases h
  ·rename_i h1
   split at h
   ·cases h
   ·split at h
    ·cases h
    ·rename_i ws hws
     have hwl := wds_len t [] ws hws
     have hww := wds_le t.length t [] ws (by simp) hws
     have := chgs_lim h (fun y hy => by have := hww y hy;omega)
     exact ⟨this.1,by have := this.2;simp only [chsOf];omega⟩
/-- what Parse answered, in one form -/
def secOf : Except (Nat × Int) (Int × List Opp) → Int
 | .ok (n,_) => n
 | .error _ => 0
def opsOf : Except (Nat × Int) (Int × List Opp) → List Opp
 | .ok (_,l) => l
 | .error _ => []
theorem opsOf_lim (t : List UInt8) : (∀ o ∈ opsOf (parseS t),LimO o) ∧ (opsOf (parseS t)).length ≤ 2000 := by
 cases h : parseS t with
 | error x => exact ⟨fun o ho => by simp [opsOf] at ho,by simp [opsOf]⟩
 | ok p =>
  obtain ⟨n,l⟩ := p
  exact parse_lim h
theorem parse_u {t : List UInt8} {n : Int} {l : List Opp} {N : Nat} (hn : Hid (secOf (parseS t) = n)) (hl : Hid (opsOf (parseS t) = l)) (hN : Hid (l.length = N)) (w : World) (hE : Env w) (hT : Tabs w) :
  Calls Tryz.prog 18 #[.string ⟨t.toArray⟩] w fun e w' => (∃ A c vs x y,e = .returned (.tuple #[.agg #[.int .i64 n,.slice A N c],.int .i64 x,.int .i64 y]) ∧ ORow w.heap.size (.slice A N c) l vs w') ∧ Below w.heap.size w w' := by
 have h1 := hn.out
 have h2 := hl.out
 have h3 := hN.out
 refine (parse_any t w hE hT).mono ?_
 rintro e w' ⟨hr,hb⟩
 refine ⟨?_,hb⟩
 cases h : parseS t with
 | error p =>
  obtain ⟨no,x⟩ := p
  rw [h] at hr h1 h2
  simp only [secOf,opsOf] at h1 h2
  subst h1 h2 h3
  exact ⟨none,0,[],_,_,hr,ORow.nil _ _⟩
 | ok p =>
  obtain ⟨m,q⟩ := p
  rw [h] at hr h1 h2
  simp only [secOf,opsOf] at h1 h2
  subst h1 h2 h3
  obtain ⟨A,c,vs,e1,e2⟩ := hr
  exact ⟨A,c,vs,_,_,e1,e2⟩
theorem parsec_u {t : List UInt8} {l : List Chg} {N : Nat} (hl : Hid (chsOf (parseC t) = l)) (hN : Hid (l.length = N)) (w : World) (hE : Env w) (hT : Tabs w) :
  Calls Tryz.prog 11 #[.string ⟨t.toArray⟩] w fun e w' => (∃ A c kvs x,e = .returned (.tuple #[.slice A N c,.int .i64 x]) ∧ CRow w.heap.size (.slice A N c) l kvs w') ∧ Below w.heap.size w w' := by
 have h2 := hl.out
 have h3 := hN.out
 refine (parsec_any t w hE hT).mono ?_
 rintro e w' ⟨hr,hb⟩
 refine ⟨?_,hb⟩
 cases h : parseC t with
 | error p =>
  rw [h] at hr h2
  simp only [chsOf] at h2
  subst h2 h3
  exact ⟨none,0,[],_,hr,CRow.nil _ _⟩
 | ok q =>
  rw [h] at hr h2
  simp only [chsOf] at h2
  subst h2 h3
  obtain ⟨A,c,kvs,e1,e2⟩ := hr
  exact ⟨A,c,kvs,_,e1,e2⟩
theorem crow_lt {B : Nat} {v : Value} {l : List Chg} {kvs : List Value} {W : World} (h : CRow B v l kvs W) : Tp kvs W.heap.size ∧ ∀ u ∈ kvs,∀ g,u.ownBlock = some g → B ≤ g := by
 have key : ∀ u ∈ kvs,∀ g,u.ownBlock = some g → B ≤ g ∧ g < W.heap.size := fun u hu g hg => by
  obtain ⟨i,hi⟩ := List.mem_iff_getElem?.1 hu
  obtain ⟨d,hd⟩ : ∃ d,l[i]? = some d := ⟨_,List.getElem?_eq_getElem (by rw [← h.len];exact (List.getElem?_eq_some_iff.1 hi).1)⟩
  exact (h.own i d u hd hi).lt g hg
 exact ⟨fun u hu g hg => (key u hu g hg).2,fun u hu g hg => (key u hu g hg).1⟩
theorem orow_tops {B : Nat} {v : Value} {l : List Opp} {vs : List Opv} {W : World} (h : ORow B v l vs W) : ∀ y ∈ vs,y.top ≤ W.heap.size := fun y hy => by
 obtain ⟨i,hi⟩ := List.mem_iff_getElem?.1 hy
 obtain ⟨d,hd⟩ : ∃ d,l[i]? = some d := ⟨_,List.getElem?_eq_getElem (by rw [← h.len];exact (List.getElem?_eq_some_iff.1 hi).1)⟩
 exact (h.own i d y hd hi).2.2
set_option maxRecDepth 100000 in
set_option maxHeartbeats 16000000 in
theorem scriptOwn_law (l1 l2 : List (List UInt8)) (A1 A2 : Option Addr) (n1 n2 c1 c2 : Nat) (w : World) (hE : Env w) (hT : Tabs w) (H1 : Hid (l1.length = n1)) (H2 : Hid (l2.length = n2)) (hs1 : Shows strc w w.heap.size A1 l1) (hs2 : Shows strc w w.heap.size A2 l2) :
  Calls Tryz.prog 4 #[.slice A1 n1 c1,.slice A2 n2 c2] w fun e w' => e = .returned (.bool true) ∧ Below w.heap.size w w' := by
 have HS1 := Lib.hid hs1
 have HS2 := Lib.hid hs2
 clear hs1 hs2
 go_enter Tryz.func4,Tryz.ntmps4
 go_wp2_with fail
 refine (fst_any w hE hT).mono ?_
 rintro e w0 ⟨rfl,hb0⟩
 have hbk := hb0.trans ((one w0 (.cells bkz 57)).mono hb0.size)
 have hB0 := bka_new w0 57
 obtain ⟨K,hK⟩ : ∃ K,w0.heap.size = K := ⟨_,rfl⟩
 have hKw : w.heap.size ≤ K := by rw [← hK];exact hb0.size
 rw [hK] at hB0
 go_wp2_with (refine wpList_bk rfl rfl ?_)
 have HB := Lib.hid hB0
 have HL := Lib.hid hbk
 generalize w0.alloc (.cells bkz 57) = wA at HB HL ⊢
 clear hb0 hbk hB0 hK
 go_loopw [7] (fun i wr => ∃ (q : Nat) (s : St),q ≤ 8 ∧ q ≤ n1 ∧ i = .int .i64 (q : Int) ∧ Hid (BkA (K + 1) K s wr) ∧ Hid (Big s (q * 2000000000)) ∧ Hid (Below w.heap.size w wr)) (fun i _ => 8 - (intOf i).toNat)
 case atStart => exact ⟨0,st0,by omega,Nat.zero_le _,rfl,HB,Lib.hid ⟨Nat.zero_le _,Nat.zero_le _,Nat.zero_le _,Nat.zero_le _,Nat.zero_le _⟩,HL⟩
 case round =>
  clear HB HL
  obtain ⟨q,s,hq8,hqn,rfl,HB,HN,HL⟩ := hrel
  by_cases hlt : q < n1 ∧ q < 8
  ·obtain ⟨hq1,hq2⟩ := hlt
   have i1 : (q : Int) < (n1 : Int) := by omega
   have i2 : (q : Int) < 8 := by omega
   obtain ⟨t,ht⟩ : ∃ t,l1[q]? = some t := ⟨_,List.getElem?_eq_getElem (by rw [H1.out];exact hq1)⟩
   obtain ⟨bt,ot,rfl,hbt,hct⟩ := HS1.out (by rw [H1.out];omega)
   have ct0 := hct q t ht
   unfold strc at ct0
   obtain ⟨n,hn⟩ : ∃ n,secOf (parseS t) = n := ⟨_,rfl⟩
   obtain ⟨l,hl⟩ : ∃ l,opsOf (parseS t) = l := ⟨_,rfl⟩
   have hlim := opsOf_lim t
   rw [hl] at hlim
   obtain ⟨N,hN⟩ : ∃ N,l.length = N := ⟨_,rfl⟩
   have hN2 : N ≤ 2000 := by rw [← hN];exact hlim.2
   have HLIM := Lib.hid hlim.1
   have HNN := Lib.hid hn
   have HLL := Lib.hid hl
   have HNL := Lib.hid hN
   have HCT : Hid (∀ W,Below w.heap.size w W → W.cell? ⟨bt,ot + q,none⟩ = some (.string ⟨t.toArray⟩)) := Lib.hid fun W hW => (hW.cell (p := ⟨bt,ot + q,none⟩) hbt).trans ct0
   have ctA := HCT.out wr HL.out
   clear ct0 hct ht hn hl hN hlim hbt
   go_wp2_with fail
   refine (parse_u HNN HLL HNL wr (hE.on HL.out) (hT.on HL.out)).mono ?_
   rintro e w1 ⟨⟨A,c,vs,x,y,rfl,hO1⟩,hb1⟩
   have hP2 : Blk w1.heap.size #[.int .i64 n,.slice A N c] 60 (w1.alloc (.cells #[.int .i64 n,.slice A N c] 60)) := Sr.blk_new w1 _ _
   have hb12 := one w1 (.cells #[.int .i64 n,.slice A N c] 60)
   go_upto_region 7 with fail
   change Code.wp _ _ _ _ (w1.alloc (.cells #[.int .i64 n,.slice A N c] 60))
   generalize (w1.alloc (.cells #[.int .i64 n,.slice A N c] 60)) = w2 at hP2 hb12 ⊢
   have hb2 := hb1.trans (hb12.mono hb1.size)
   have HL2 := Lib.hid (HL.out.trans (hb2.mono HL.out.size))
   have ctB := HCT.out w2 HL2.out
   have htp1 := orow_tops hO1
   have hvt1 : ∀ g,(Value.slice A N c).ownBlock = some g → g < w1.heap.size := fun g hg => (hO1.row.lt g hg).2
   have HO2 := Lib.hid (hO1.on hb12)
   have hs1 := hb1.size
   have hs2 := hb12.size
   obtain ⟨T1,hT1⟩ : ∃ T,w1.heap.size = T := ⟨_,rfl⟩
   rw [hT1] at hP2 htp1 hvt1 hs1 hs2 ⊢
   have HTP1 := Lib.hid (And.intro htp1 hvt1)
   clear ctA htp1 hvt1 hb12 hO1 hT1 hb1
   go_wp2_with fail
   refine (parse_u HNN HLL HNL w2 (hE.on HL2.out) (hT.on HL2.out)).mono ?_
   rintro e w3 ⟨⟨A',c',vs',x',y',rfl,hO3⟩,hb3⟩
   have hP4 : Blk w3.heap.size #[.int .i64 n,.slice A' N c'] 60 (w3.alloc (.cells #[.int .i64 n,.slice A' N c'] 60)) := Sr.blk_new w3 _ _
   have hb34 := one w3 (.cells #[.int .i64 n,.slice A' N c'] 60)
   go_upto_region 8 with fail
   change Code.wp _ _ _ _ (w3.alloc (.cells #[.int .i64 n,.slice A' N c'] 60))
   generalize (w3.alloc (.cells #[.int .i64 n,.slice A' N c'] 60)) = w4 at hP4 hb34 ⊢
   have hb4 := hb3.trans (hb34.mono hb3.size)
   have HL4 := Lib.hid (HL2.out.trans (hb4.mono HL2.out.size))
   have htp3 := orow_tops hO3
   have hvt3 : ∀ g,(Value.slice A' N c').ownBlock = some g → g < w3.heap.size := fun g hg => (hO3.row.lt g hg).2
   have HO4 := Lib.hid (hO3.on hb34)
   have HO24 := Lib.hid (HO2.out.on hb4)
   have hP24 := hP2.on hb4
   have hs3 := hb3.size
   have hs4 := hb34.size
   have hB4 := HB.out.on (hb2.trans (hb4.mono hb2.size))
   obtain ⟨T3,hT3⟩ : ∃ T,w3.heap.size = T := ⟨_,rfl⟩
   rw [hT3] at hP4 htp3 hvt3 hs3 hs4 ⊢
   have HTP3 := Lib.hid (And.intro htp3 hvt3)
   clear ctB htp3 hvt3 hb34 hO3 hT3 hb3 hP2 HO2
   have hcall := scr_same n HNL vs' vs A' A c' c w4 (by omega) HO4.out.shows.1 HO24.out.shows.1 HLIM.out
   have a0 : w4.cell? ⟨T1,0,none⟩ = some (.int .i64 n) := hP24.cell rfl
   have a1 : w4.cell? ⟨T1,1,none⟩ = some (.slice A N c) := hP24.cell rfl
   have b0 : w4.cell? ⟨T3,0,none⟩ = some (.int .i64 n) := hP4.cell rfl
   have b1 : w4.cell? ⟨T3,1,none⟩ = some (.slice A' N c') := hP4.cell rfl
   go_wp2_with fail
   refine hcall.mono ?_
   rintro e w5 ⟨rfl,hb5⟩
   have HL5 := Lib.hid (HL4.out.trans (hb5.mono HL4.out.size))
   have HO5 := Lib.hid (HO4.out.on hb5)
   have HO25 := Lib.hid (HO24.out.on hb5)
   have hP5 := hP4.on hb5
   have hP25 := hP24.on hb5
   have HB5 := Lib.hid (hB4.on hb5)
   have a15 : w5.cell? ⟨T1,1,none⟩ = some (.slice A N c) := hP25.cell rfl
   have hs5 := hb5.size
   clear a0 a1 b0 b1 hcall hb5 hP4 hP24 hB4 hb2 hb4 HO4 HO24
   by_cases hN4 : N ≤ 400
   ·have i3 : ¬ (400 : Int) < (N : Int) := by omega
    have hC1 := Lib.hid (keep_O (K + 1) K wr.heap.size (q * 2000000000) wr.heap.size T1 s (.slice A N c) l vs w5 HB5.out HO25.out HB.out.bw HLIM.out (by rw [HNL.out];exact hN4) HB.out.tps (Nat.le_refl _) hs1 HTP1.out.1 HTP1.out.2 HN.out (by omega))
    go_wp2_with fail
    refine hC1.out.mono ?_
    rintro e w6 ⟨rfl,⟨s6,hB6,hT6,hN6⟩,hF6,hX6⟩
    have hK5 := HB5.out.kw
    have HB6 := Lib.hid hB6
    have HT6 := Lib.hid hT6
    have HN6 := Lib.hid hN6
    have HL6 := Lib.hid (hF6.old _ _ hKw HL5.out)
    have HO6 := Lib.hid (ORow.fu HO5.out hF6 (by have := HB.out.kw;omega))
    have hP6 : Blk T3 #[.int .i64 n,.slice A' N c'] 60 w6 := (hX6 T3 _ (by have := HB.out.kw;omega) hP5).trans hP5
    have b16 : w6.cell? ⟨T3,1,none⟩ = some (.slice A' N c') := hP6.cell rfl
    have hs6 := hF6.size
    clear hC1 hF6 hX6 hB6 hT6 hN6 a15 hP5 hP25
    have hC2 := Lib.hid (keep_O (K + 1) K w2.heap.size (q * 2000000000 + 1000000000) T1 T3 s6 (.slice A' N c') l vs' w6 HB6.out HO6.out (by have := HB.out.bw;omega) HLIM.out (by rw [HNL.out];exact hN4) HT6.out hs2 hs3 HTP3.out.1 HTP3.out.2 HN6.out (by omega))
    go_wp2_with fail
    refine hC2.out.mono ?_
    rintro e w7 ⟨rfl,⟨s7,hB7,hT7,hN7⟩,hF7,hX7⟩
    have HB7 := Lib.hid hB7
    have HN7 := Lib.hid (hN7.mono (N' := (q + 1) * 2000000000) (by omega))
    have HL7 := Lib.hid (hF7.old _ _ hKw HL6.out)
    clear hC2 hF7 hX7 hB7 hT7 hN7 b16 hP6
    go_wp2
    go_roundw
    case rel => exact ⟨q + 1,s7,by omega,by omega,by go_num,HB7,HN7,HL7⟩
    case measure => simp [intOf];omega
   ·have i3 : (400 : Int) < (N : Int) := by omega
    go_wp2
    go_ret
    exact ⟨rfl,HL5.out⟩
  ·have hstop : n1 ≤ q ∨ 8 ≤ q := by omega
   have HN := Lib.hid (HN.out.mono (N' := 16000000000) (by omega))
   by_cases hx : q < n1
   ·have i1 : (q : Int) < (n1 : Int) := by omega
    have i2 : ¬ (q : Int) < 8 := by omega
    go_wp2
    go_loopw [15] (fun i wr => ∃ (q : Nat) (s : St),q ≤ 8 ∧ q ≤ n2 ∧ i = .int .i64 (q : Int) ∧ Hid (BkA (K + 1) K s wr) ∧ Hid (Big s (16000000000 + q * 4000004)) ∧ Hid (Below w.heap.size w wr)) (fun i _ => 8 - (intOf i).toNat)
    case atStart => exact ⟨0,s,by omega,Nat.zero_le _,rfl,HB,Lib.hid (HN.out.mono (by omega)),HL⟩
    case round =>
     clear HB HN HL
     obtain ⟨q,s,hq8,hqn,rfl,HB,HN,HL⟩ := hrel
     by_cases hlt : q < n2 ∧ q < 8
     ·obtain ⟨hq1,hq2⟩ := hlt
      have i1 : (q : Int) < (n2 : Int) := by omega
      have i2 : (q : Int) < 8 := by omega
      obtain ⟨t,ht⟩ : ∃ t,l2[q]? = some t := ⟨_,List.getElem?_eq_getElem (by rw [H2.out];exact hq1)⟩
      obtain ⟨bt,ot,rfl,hbt,hct⟩ := HS2.out (by rw [H2.out];omega)
      have ct0 := hct q t ht
      unfold strc at ct0
      obtain ⟨l,hl⟩ : ∃ l,chsOf (parseC t) = l := ⟨_,rfl⟩
      have hlim := parseC_lim (t := t)
      rw [hl] at hlim
      obtain ⟨N,hN⟩ : ∃ N,l.length = N := ⟨_,rfl⟩
      have hN2 : N ≤ 2000000 := by rw [← hN];exact hlim.2
      have HLIM := Lib.hid hlim.1
      have HLL := Lib.hid hl
      have HNL := Lib.hid hN
      have HCT : Hid (∀ W,Below w.heap.size w W → W.cell? ⟨bt,ot + q,none⟩ = some (.string ⟨t.toArray⟩)) := Lib.hid fun W hW => (hW.cell (p := ⟨bt,ot + q,none⟩) hbt).trans ct0
      have ctA := HCT.out wr HL.out
      clear ct0 hct ht hl hN hlim hbt
      go_wp2_with fail
      refine (parsec_u HLL HNL wr (hE.on HL.out) (hT.on HL.out)).mono ?_
      rintro e w1 ⟨⟨A,c,kvs,x,rfl,hC1⟩,hb1⟩
      have HL1 := Lib.hid (HL.out.trans (hb1.mono HL.out.size))
      have ctB := HCT.out w1 HL1.out
      have HC1 := Lib.hid hC1
      clear ctA hC1
      go_wp2_with fail
      refine (parsec_u HLL HNL w1 (hE.on HL1.out) (hT.on HL1.out)).mono ?_
      rintro e w2 ⟨⟨A',c',kvs',x',rfl,hC2⟩,hb2⟩
      have HL2 := Lib.hid (HL1.out.trans (hb2.mono HL1.out.size))
      have HC2 := Lib.hid hC2
      have HC12 := Lib.hid (HC1.out.on hb2)
      clear ctB hC2
      have hcall := changes_same HNL kvs kvs' A A' c c' w2 hN2 HC12.out.shows HC2.out.shows HLIM.out
      go_wp2_with fail
      refine hcall.mono ?_
      rintro e w3 ⟨rfl,hb3⟩
      have HL3 := Lib.hid (HL2.out.trans (hb3.mono HL2.out.size))
      have HB3 := Lib.hid (((HB.out.on hb1).on hb2).on hb3)
      have HC13 := Lib.hid (HC12.out.on hb3)
      have HC23 := Lib.hid (HC2.out.on hb3)
      have hs1 := hb1.size
      have hs2 := hb2.size
      have hs3 := hb3.size
      clear hcall hb1 hb2 hb3
      by_cases hN4 : N ≤ 400
      ·have i3 : ¬ (400 : Int) < (N : Int) := by omega
       have hkb := HB.out.bw
       have hK1 := Lib.hid (keep_C (K + 1) K s (.slice A N c) l kvs w3 HB3.out (HC13.out.low hkb) HLIM.out (by rw [HNL.out];exact hN2) (apt_app HB.out.ab HB.out.tps.b HC1.out.ap (crow_lt HC1.out).2) (apt_snoc HB.out.ac HB.out.tps.c fun g hg => (HC1.out.row.lt g hg).1) (by rw [HNL.out];have := HN.out.b;omega) (by have := HN.out.c;omega))
       go_wp2_with fail
       refine hK1.out.mono ?_
       rintro e w4 ⟨rfl,⟨s4,hB4,sb,sc,sl,sf,so⟩,hF4,hX4⟩
       have HB4 := Lib.hid hB4
       have HL4 := Lib.hid (hF4.old _ _ hKw HL3.out)
       have HC24 := Lib.hid (CRow.fu HC23.out hF4 (show K < w1.heap.size by omega))
       have HTB : Hid (Tp (s4.b.map (·.v)) w1.heap.size) := Lib.hid (by rw [sb];exact (HB.out.tps.b.mono hs1).app (crow_lt HC1.out).1)
       have HTC : Hid (Tp (s4.c.map (·.v)) w1.heap.size) := Lib.hid (by rw [sc];exact (HB.out.tps.c.mono hs1).app (Tp.one fun g hg => (HC1.out.row.lt g hg).2))
       have HN4 : Hid (s4.b.length = s.b.length + N ∧ s4.c.length = s.c.length + 1 ∧ s4.l = s.l ∧ s4.f = s.f ∧ s4.o = s.o) := Lib.hid (by
        have e1 := congrArg List.length sb
        have e2 := congrArg List.length sc
        simp only [List.length_map,List.length_append,List.length_singleton] at e1 e2
        have e3 := HC1.out.len
        rw [HNL.out] at e3
        exact ⟨by omega,e2,sl,sf,so⟩)
       clear hK1 hB4 sb sc sl sf so hF4 hX4
       have hK2 := Lib.hid (keep_C (K + 1) K s4 (.slice A' N c') l kvs' w4 HB4.out (HC24.out.low (by omega)) HLIM.out (by rw [HNL.out];exact hN2) (apt_app HB4.out.ab HTB.out HC2.out.ap (crow_lt HC2.out).2) (apt_snoc HB4.out.ac HTC.out fun g hg => (HC2.out.row.lt g hg).1) (by rw [HNL.out,HN4.out.1];have := HN.out.b;omega) (by rw [HN4.out.2.1];have := HN.out.c;omega))
       go_wp2_with fail
       refine hK2.out.mono ?_
       rintro e w5 ⟨rfl,⟨s5,hB5,sb,sc,sl,sf,so⟩,hF5,hX5⟩
       have HB5 := Lib.hid hB5
       have HL5 := Lib.hid (hF5.old _ _ hKw HL4.out)
       have HN5 : Hid (Big s5 (16000000000 + (q + 1) * 4000004)) := Lib.hid (by
        have e1 := congrArg List.length sb
        have e2 := congrArg List.length sc
        simp only [List.length_map,List.length_append,List.length_singleton] at e1 e2
        have e3 := HC2.out.len
        rw [HNL.out] at e3
        obtain ⟨f1,f2,f3,f4,f5⟩ := HN4.out
        obtain ⟨g1,g2,g3,g4,g5⟩ := HN.out
        refine ⟨by omega,?_,by omega,?_,?_⟩
        ·rw [sl,f3];exact Nat.le_trans g2 (Nat.add_le_add_left (Nat.mul_le_mul_right _ (Nat.le_succ q)) _)
        ·rw [sf,f4];exact Nat.le_trans g4 (Nat.add_le_add_left (Nat.mul_le_mul_right _ (Nat.le_succ q)) _)
        ·rw [so,f5];exact Nat.le_trans g5 (Nat.add_le_add_left (Nat.mul_le_mul_right _ (Nat.le_succ q)) _))
       clear hK2 hB5 sb sc sl sf so hF5 hX5
       go_wp2
       go_roundw
       case rel => exact ⟨q + 1,s5,by omega,by omega,by go_num,HB5,HN5,HL5⟩
       case measure => simp [intOf];omega
      ·have i3 : (400 : Int) < (N : Int) := by omega
       go_wp2
       go_ret
       exact ⟨rfl,HL3.out⟩
     ·by_cases hx : q < n2
      ·have i1 : (q : Int) < (n2 : Int) := by omega
       have i2 : ¬ (q : Int) < 8 := by omega
       go_wp2_with fail
       refine (finish_a (K + 1) K s wr HB.out (HN.out.mono (by omega))).mono ?_
       rintro e w9 ⟨rfl,hF9⟩
       have hL9 := hF9.2 _ _ hKw HL.out
       clear hF9
       go_wp2
       go_ret
       exact ⟨rfl,hL9⟩
      ·have i1 : ¬ (q : Int) < (n2 : Int) := by omega
       go_wp2_with fail
       refine (finish_a (K + 1) K s wr HB.out (HN.out.mono (by omega))).mono ?_
       rintro e w9 ⟨rfl,hF9⟩
       have hL9 := hF9.2 _ _ hKw HL.out
       clear hF9
       go_wp2
       go_ret
       exact ⟨rfl,hL9⟩
   ·have i1 : ¬ (q : Int) < (n1 : Int) := by omega
    go_wp2
    go_loopw [15] (fun i wr => ∃ (q : Nat) (s : St),q ≤ 8 ∧ q ≤ n2 ∧ i = .int .i64 (q : Int) ∧ Hid (BkA (K + 1) K s wr) ∧ Hid (Big s (16000000000 + q * 4000004)) ∧ Hid (Below w.heap.size w wr)) (fun i _ => 8 - (intOf i).toNat)
    case atStart => exact ⟨0,s,by omega,Nat.zero_le _,rfl,HB,Lib.hid (HN.out.mono (by omega)),HL⟩
    case round =>
     clear HB HN HL
     obtain ⟨q,s,hq8,hqn,rfl,HB,HN,HL⟩ := hrel
     by_cases hlt : q < n2 ∧ q < 8
     ·obtain ⟨hq1,hq2⟩ := hlt
      have i1 : (q : Int) < (n2 : Int) := by omega
      have i2 : (q : Int) < 8 := by omega
      obtain ⟨t,ht⟩ : ∃ t,l2[q]? = some t := ⟨_,List.getElem?_eq_getElem (by rw [H2.out];exact hq1)⟩
      obtain ⟨bt,ot,rfl,hbt,hct⟩ := HS2.out (by rw [H2.out];omega)
      have ct0 := hct q t ht
      unfold strc at ct0
      obtain ⟨l,hl⟩ : ∃ l,chsOf (parseC t) = l := ⟨_,rfl⟩
      have hlim := parseC_lim (t := t)
      rw [hl] at hlim
      obtain ⟨N,hN⟩ : ∃ N,l.length = N := ⟨_,rfl⟩
      have hN2 : N ≤ 2000000 := by rw [← hN];exact hlim.2
      have HLIM := Lib.hid hlim.1
      have HLL := Lib.hid hl
      have HNL := Lib.hid hN
      have HCT : Hid (∀ W,Below w.heap.size w W → W.cell? ⟨bt,ot + q,none⟩ = some (.string ⟨t.toArray⟩)) := Lib.hid fun W hW => (hW.cell (p := ⟨bt,ot + q,none⟩) hbt).trans ct0
      have ctA := HCT.out wr HL.out
      clear ct0 hct ht hl hN hlim hbt
      go_wp2_with fail
      refine (parsec_u HLL HNL wr (hE.on HL.out) (hT.on HL.out)).mono ?_
      rintro e w1 ⟨⟨A,c,kvs,x,rfl,hC1⟩,hb1⟩
      have HL1 := Lib.hid (HL.out.trans (hb1.mono HL.out.size))
      have ctB := HCT.out w1 HL1.out
      have HC1 := Lib.hid hC1
      clear ctA hC1
      go_wp2_with fail
      refine (parsec_u HLL HNL w1 (hE.on HL1.out) (hT.on HL1.out)).mono ?_
      rintro e w2 ⟨⟨A',c',kvs',x',rfl,hC2⟩,hb2⟩
      have HL2 := Lib.hid (HL1.out.trans (hb2.mono HL1.out.size))
      have HC2 := Lib.hid hC2
      have HC12 := Lib.hid (HC1.out.on hb2)
      clear ctB hC2
      have hcall := changes_same HNL kvs kvs' A A' c c' w2 hN2 HC12.out.shows HC2.out.shows HLIM.out
      go_wp2_with fail
      refine hcall.mono ?_
      rintro e w3 ⟨rfl,hb3⟩
      have HL3 := Lib.hid (HL2.out.trans (hb3.mono HL2.out.size))
      have HB3 := Lib.hid (((HB.out.on hb1).on hb2).on hb3)
      have HC13 := Lib.hid (HC12.out.on hb3)
      have HC23 := Lib.hid (HC2.out.on hb3)
      have hs1 := hb1.size
      have hs2 := hb2.size
      have hs3 := hb3.size
      clear hcall hb1 hb2 hb3
      by_cases hN4 : N ≤ 400
      ·have i3 : ¬ (400 : Int) < (N : Int) := by omega
       have hkb := HB.out.bw
       have hK1 := Lib.hid (keep_C (K + 1) K s (.slice A N c) l kvs w3 HB3.out (HC13.out.low hkb) HLIM.out (by rw [HNL.out];exact hN2) (apt_app HB.out.ab HB.out.tps.b HC1.out.ap (crow_lt HC1.out).2) (apt_snoc HB.out.ac HB.out.tps.c fun g hg => (HC1.out.row.lt g hg).1) (by rw [HNL.out];have := HN.out.b;omega) (by have := HN.out.c;omega))
       go_wp2_with fail
       refine hK1.out.mono ?_
       rintro e w4 ⟨rfl,⟨s4,hB4,sb,sc,sl,sf,so⟩,hF4,hX4⟩
       have HB4 := Lib.hid hB4
       have HL4 := Lib.hid (hF4.old _ _ hKw HL3.out)
       have HC24 := Lib.hid (CRow.fu HC23.out hF4 (show K < w1.heap.size by omega))
       have HTB : Hid (Tp (s4.b.map (·.v)) w1.heap.size) := Lib.hid (by rw [sb];exact (HB.out.tps.b.mono hs1).app (crow_lt HC1.out).1)
       have HTC : Hid (Tp (s4.c.map (·.v)) w1.heap.size) := Lib.hid (by rw [sc];exact (HB.out.tps.c.mono hs1).app (Tp.one fun g hg => (HC1.out.row.lt g hg).2))
       have HN4 : Hid (s4.b.length = s.b.length + N ∧ s4.c.length = s.c.length + 1 ∧ s4.l = s.l ∧ s4.f = s.f ∧ s4.o = s.o) := Lib.hid (by
        have e1 := congrArg List.length sb
        have e2 := congrArg List.length sc
        simp only [List.length_map,List.length_append,List.length_singleton] at e1 e2
        have e3 := HC1.out.len
        rw [HNL.out] at e3
        exact ⟨by omega,e2,sl,sf,so⟩)
       clear hK1 hB4 sb sc sl sf so hF4 hX4
       have hK2 := Lib.hid (keep_C (K + 1) K s4 (.slice A' N c') l kvs' w4 HB4.out (HC24.out.low (by omega)) HLIM.out (by rw [HNL.out];exact hN2) (apt_app HB4.out.ab HTB.out HC2.out.ap (crow_lt HC2.out).2) (apt_snoc HB4.out.ac HTC.out fun g hg => (HC2.out.row.lt g hg).1) (by rw [HNL.out,HN4.out.1];have := HN.out.b;omega) (by rw [HN4.out.2.1];have := HN.out.c;omega))
       go_wp2_with fail
       refine hK2.out.mono ?_
       rintro e w5 ⟨rfl,⟨s5,hB5,sb,sc,sl,sf,so⟩,hF5,hX5⟩
       have HB5 := Lib.hid hB5
       have HL5 := Lib.hid (hF5.old _ _ hKw HL4.out)
       have HN5 : Hid (Big s5 (16000000000 + (q + 1) * 4000004)) := Lib.hid (by
        have e1 := congrArg List.length sb
        have e2 := congrArg List.length sc
        simp only [List.length_map,List.length_append,List.length_singleton] at e1 e2
        have e3 := HC2.out.len
        rw [HNL.out] at e3
        obtain ⟨f1,f2,f3,f4,f5⟩ := HN4.out
        obtain ⟨g1,g2,g3,g4,g5⟩ := HN.out
        refine ⟨by omega,?_,by omega,?_,?_⟩
        ·rw [sl,f3];exact Nat.le_trans g2 (Nat.add_le_add_left (Nat.mul_le_mul_right _ (Nat.le_succ q)) _)
        ·rw [sf,f4];exact Nat.le_trans g4 (Nat.add_le_add_left (Nat.mul_le_mul_right _ (Nat.le_succ q)) _)
        ·rw [so,f5];exact Nat.le_trans g5 (Nat.add_le_add_left (Nat.mul_le_mul_right _ (Nat.le_succ q)) _))
       clear hK2 hB5 sb sc sl sf so hF5 hX5
       go_wp2
       go_roundw
       case rel => exact ⟨q + 1,s5,by omega,by omega,by go_num,HB5,HN5,HL5⟩
       case measure => simp [intOf];omega
      ·have i3 : (400 : Int) < (N : Int) := by omega
       go_wp2
       go_ret
       exact ⟨rfl,HL3.out⟩
     ·by_cases hx : q < n2
      ·have i1 : (q : Int) < (n2 : Int) := by omega
       have i2 : ¬ (q : Int) < 8 := by omega
       go_wp2_with fail
       refine (finish_a (K + 1) K s wr HB.out (HN.out.mono (by omega))).mono ?_
       rintro e w9 ⟨rfl,hF9⟩
       have hL9 := hF9.2 _ _ hKw HL.out
       clear hF9
       go_wp2
       go_ret
       exact ⟨rfl,hL9⟩
      ·have i1 : ¬ (q : Int) < (n2 : Int) := by omega
       go_wp2_with fail
       refine (finish_a (K + 1) K s wr HB.out (HN.out.mono (by omega))).mono ?_
       rintro e w9 ⟨rfl,hF9⟩
       have hL9 := hF9.2 _ _ hKw HL.out
       clear hF9
       go_wp2
       go_ret
       exact ⟨rfl,hL9⟩
end Go.Proofs.YtpkmekdpmkfcdaaGreatDoor.Kb
