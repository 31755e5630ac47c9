/- Contracts: steps copied into new memory. -/
import Derived.Test.YtpkmekdpmkfcdaaGreatDoorSmI
namespace Go.Proofs.YtpkmekdpmkfcdaaGreatDoor.Sr
set_option linter.unusedVariables false
set_option linter.unusedSimpArgs false
open Go.RowKit Go.Proofs.YtpkmekdpmkfcdaaGreatDoor.Wd Go.Proofs.YtpkmekdpmkfcdaaGreatDoor.Px Go.Proofs.YtpkmekdpmkfcdaaGreatDoor.By Go.Proofs.YtpkmekdpmkfcdaaGreatDoor.En Go.Proofs.YtpkmekdpmkfcdaaGreatDoor.Pl Go.Proofs.YtpkmekdpmkfcdaaGreatDoor.Pf Go.Proofs.YtpkmekdpmkfcdaaGreatDoor.Sc
theorem bytes_copy {l : List UInt8} {n : Nat} (hn : Hid (l.length = n)) (A : Option Addr) (c : Nat) (w : World) (hl : n ≤ 2000000) (ha : Shows cel w w.heap.size A l) :
  Calls Tryz.prog 38 #[.slice A n c] w fun e w' => (∃ A' c',e = .returned (.slice A' n c') ∧ w'.ownsRow w.heap.size 5 1 (.slice A' n c') n (l.map cel)) ∧ Below w.heap.size w w' := by
 have hn := hn.out
 subst hn
 refine (By.bytes_any l A c w (by omega) ha).mono ?_
 rintro e w' ⟨v,rfl,hown,hb⟩
 obtain ⟨A',c',rfl,-⟩ := own_sl hown
 exact ⟨⟨A',c',rfl,hown⟩,hb⟩
set_option maxRecDepth 20000 in
theorem bools_copy {l : List Bool} {n : Nat} (hn : Hid (l.length = n)) (A : Option Addr) (c : Nat) (w : World) (hl : n ≤ 2000000) (ha : Shows Value.bool w w.heap.size A l) :
  Calls Tryz.prog 83 #[.slice A n c] w fun e w' => (∃ A' c',e = .returned (.slice A' n c') ∧ w'.ownsRow w.heap.size 4 1 (.slice A' n c') n (l.map Value.bool)) ∧ Below w.heap.size w w' := by
 obtain ⟨i0,hi0,hz0,hz1,hz2⟩ := info_parts Tryz.infoBool
 go_enter Tryz.func83,Tryz.ntmps83
 go_wp2
 go_loopw [3,4] (fun v i wr => ∃ (k : Nat) (dn : List Bool),k ≤ n ∧ i = .int .i64 (k : Int) ∧ Hid (dn = l.take k) ∧ (∃ A c,v = .slice A k c) ∧ wr.ownsRow w.heap.size 4 1 v k (dn.map Value.bool) ∧ Below w.heap.size w wr) (fun _ i _ => n - (intOf i).toNat)
 case atStart => exact ⟨0,[],Nat.zero_le _,rfl,Lib.hid rfl,⟨_,_,rfl⟩,World.ownsRow_nil _ _ _ _,Below.refl _ _⟩
 case round =>
  obtain ⟨k,dn,hk,rfl,HD,⟨A2,c2,rfl⟩,hown,hbl⟩ := hrel
  by_cases hlt : k < n
  ·have i1 : (k : Int) < (n : Int) := by omega
   obtain ⟨b,o,rfl,hbk,hc1⟩ := ha (by rw [hn.out];omega)
   obtain ⟨x,hx⟩ : ∃ x,l[k]? = some x := ⟨_,List.getElem?_eq_getElem (by rw [hn.out];exact hlt)⟩
   have cc := (hbl.cell (p := ⟨b,o + k,none⟩) hbk).trans (hc1 k x hx)
   have HD2 : Hid (dn ++ [x] = l.take (k + 1)) := Lib.hid (by rw [(take_snoc hx).1,← HD.out])
   clear hx hc1
   go_wp2_with (at_builtin;go_loud (refine wpList_append_own _ rfl _ _ 106 rfl w.heap.size 4 i0 (.bool false) 1 1 Tryz.underlying106 hi0 hz0 hz1 hz2 rfl (by decide) _ _ _ rfl (hown.alloc _) ⟨wr.heap.size,0,none⟩ 1 1 [.bool x] rfl rfl (cells_at rfl _ _) ?c2 ?c3 ?c4 ?c5 ?_))
   case c2 => intro u hu;simp at hu;subst hu;rfl
   case c3 => unfold maxLen;omega
   case c4 => omega
   case c5 => have := hbl.size;simp;omega
   intro v' w3 hown' hgrow _
   have hbA := (hbl.alloc hbl.size _).grown hgrow (by have := hbl.size;simp;omega) (fun j hj => (hown.lt j hj).1)
   obtain ⟨A4,c4,rfl,-⟩ := own_sl hown'
   clear hown hgrow hbl cc
   go_wp2
   go_roundw
   case rel => exact ⟨k + 1,_,by omega,by go_num,HD2,⟨_,_,rfl⟩,by rw [List.map_append,List.map_singleton];exact hown',hbA⟩
   case measure => simp [intOf];omega
  ·obtain rfl : k = n := by omega
   have i1 : ¬ (k : Int) < (k : Int) := by omega
   have hd : dn = l := by rw [HD.out,List.take_of_length_le (by rw [hn.out];exact Nat.le_refl _)]
   have HF := Lib.hid (show wr.ownsRow w.heap.size 4 1 (.slice A2 k c2) k (l.map Value.bool) by rw [← hd];exact hown)
   clear hd hown
   go_wp2
   go_ret
   exact ⟨⟨_,_,rfl,HF.out⟩,hbl⟩
set_option maxRecDepth 20000 in
theorem faults_copy {l : List (Int × Int)} {n : Nat} (hn : Hid (l.length = n)) (A : Option Addr) (c : Nat) (w : World) (hl : n ≤ 2000000) (ha : ShF w A l) :
  Calls Tryz.prog 82 #[.slice A n c] w fun e w' => (∃ A' c',e = .returned (.slice A' n c') ∧ w'.ownsRow w.heap.size 125 2 (.slice A' n c') n (l.flatMap fltC)) ∧ Below w.heap.size w w' := by
 obtain ⟨i0,hi0,hz0,hz1,hz2⟩ := info_parts infoFault
 go_enter Tryz.func82,Tryz.ntmps82
 go_wp2
 go_loopw [3,4] (fun v i wr => ∃ (k : Nat) (dn : List (Int × Int)),k ≤ n ∧ i = .int .i64 (k : Int) ∧ Hid (dn = l.take k) ∧ (∃ A c,v = .slice A k c) ∧ wr.ownsRow w.heap.size 125 2 v k (dn.flatMap fltC) ∧ Below w.heap.size w wr) (fun _ i _ => n - (intOf i).toNat)
 case atStart => exact ⟨0,[],Nat.zero_le _,rfl,Lib.hid rfl,⟨_,_,rfl⟩,World.ownsRow_nil _ _ _ _,Below.refl _ _⟩
 case round =>
  obtain ⟨k,dn,hk,rfl,HD,⟨A2,c2,rfl⟩,hown,hbl⟩ := hrel
  by_cases hlt : k < n
  ·have i1 : (k : Int) < (n : Int) := by omega
   obtain ⟨b,o,rfl,hbk,hc1⟩ := ha (by rw [hn.out];omega)
   obtain ⟨⟨fa,fk⟩,hx⟩ : ∃ x,l[k]? = some x := ⟨_,List.getElem?_eq_getElem (by rw [hn.out];exact hlt)⟩
   obtain ⟨u0,u1⟩ := hc1 k _ hx
   have cc0 := (hbl.cell (p := ⟨b,o + k * 2,none⟩) hbk).trans u0
   have cc1 := (hbl.cell (p := ⟨b,o + k * 2 + 1,none⟩) hbk).trans u1
   simp only at cc0 cc1
   have HD2 : Hid (dn ++ [(fa,fk)] = l.take (k + 1)) := Lib.hid (by rw [(take_snoc hx).1,← HD.out])
   clear hx hc1 u0 u1
   go_wp2_with (at_builtin;go_loud (refine wpList_append_own _ rfl _ _ 105 rfl w.heap.size 125 i0 (.agg #[.int .i64 0,.int .i64 0]) 2 16 Tryz.underlying105 hi0 hz0 hz1 hz2 rfl (by decide) _ _ _ rfl (hown.alloc _) ⟨wr.heap.size,0,none⟩ 1 1 [.int .i64 fa,.int .i64 fk] rfl rfl (cells_at rfl _ _) ?c2 ?c3 ?c4 ?c5 ?_))
   case c2 => intro u hu;simp at hu;rcases hu with rfl | rfl <;> rfl
   case c3 => unfold maxLen;omega
   case c4 => omega
   case c5 => have := hbl.size;simp;omega
   intro v' w3 hown' hgrow _
   have hbA := (hbl.alloc hbl.size _).grown hgrow (by have := hbl.size;simp;omega) (fun j hj => (hown.lt j hj).1)
   obtain ⟨A4,c4,rfl,-⟩ := own_sl hown'
   clear hown hgrow hbl cc0 cc1
   go_wp2
   go_roundw
   case rel => exact ⟨k + 1,_,by omega,by go_num,HD2,⟨_,_,rfl⟩,by rw [List.flatMap_append];exact hown',hbA⟩
   case measure => simp [intOf];omega
  ·obtain rfl : k = n := by omega
   have i1 : ¬ (k : Int) < (k : Int) := by omega
   have hd : dn = l := by rw [HD.out,List.take_of_length_le (by rw [hn.out];exact Nat.le_refl _)]
   have HF := Lib.hid (show wr.ownsRow w.heap.size 125 2 (.slice A2 k c2) k (l.flatMap fltC) by rw [← hd];exact hown)
   clear hd hown
   go_wp2
   go_ret
   exact ⟨⟨_,_,rfl,HF.out⟩,hbl⟩
set_option maxRecDepth 20000 in
set_option maxHeartbeats 2000000 in
theorem changes_copy {l : List Chg} {n : Nat} (hn : Hid (l.length = n)) (kvs : List Value) (A : Option Addr) (c : Nat) (w : World) (hl : n ≤ 2000000) (ha : ShC w A l kvs) (hL : ∀ c ∈ l,Lim c) :
  Calls Tryz.prog 16 #[.slice A n c] w fun e w' => (∃ A' c' kvs',e = .returned (.slice A' n c') ∧ CRow w.heap.size (.slice A' n c') l kvs' w') ∧ Below w.heap.size w w' := by
 obtain ⟨i0,hi0,hz0,hz1,hz2⟩ := info_parts infoChg
 go_enter Tryz.func16,Tryz.ntmps16
 go_wp2
 go_loopw [3,4] (fun v i wr => ∃ (k : Nat) (dn : List Chg) (ks : List Value),k ≤ n ∧ i = .int .i64 (k : Int) ∧ Hid (dn = l.take k) ∧ Hid (dn.length = k) ∧ (∃ A c,v = .slice A k c) ∧ CRow w.heap.size v dn ks wr ∧ Below w.heap.size w wr) (fun _ i _ => n - (intOf i).toNat)
 case atStart => exact ⟨0,[],[],Nat.zero_le _,rfl,Lib.hid rfl,Lib.hid rfl,⟨_,_,rfl⟩,CRow.nil _ _,Below.refl _ _⟩
 case round =>
  obtain ⟨k,dn,ks,hk,rfl,HD,HK,⟨A2,c2,rfl⟩,hrow,hbl⟩ := hrel
  by_cases hlt : k < n
  ·have i1 : (k : Int) < (n : Int) := by omega
   obtain ⟨b,o,rfl,hbk,hc1⟩ := ha.cells (by rw [hn.out];omega)
   obtain ⟨ch,hf⟩ : ∃ f,l[k]? = some f := ⟨_,List.getElem?_eq_getElem (by rw [hn.out];exact hlt)⟩
   obtain ⟨kv,hkv⟩ : ∃ f,kvs[k]? = some f := ⟨_,List.getElem?_eq_getElem (by rw [ha.len,hn.out];exact hlt)⟩
   obtain ⟨Ak,ck,rfl,hck,sk⟩ := ha.key k ch kv hf hkv
   have hLc := (hL ch (List.mem_of_getElem? hf)).key
   have d1 : ∀ (j : Nat) u,(chC ch (.slice Ak ch.key.length ck))[j]? = some u → wr.cell? ⟨b,o + k * 8 + j,none⟩ = some u := fun j u h => (hbl.cell (p := ⟨b,o + k * 8 + j,none⟩) hbk).trans (hc1 k _ _ hf hkv j u h)
   have HD2 : Hid (dn ++ [ch] = l.take (k + 1)) := Lib.hid (by rw [(take_snoc hf).1,← HD.out])
   obtain ⟨m,hm⟩ : ∃ m,ch.key.length = m := ⟨_,rfl⟩
   have HM := Lib.hid hm
   have sk2 := sk.on hbl
   rw [hm] at d1 hLc
   clear hf hkv hc1 sk hck
   have e0 : wr.cell? ⟨b,o + k * 8 + 0,none⟩ = some (.int .i64 ch.kind) := d1 0 _ rfl
   have e1 : wr.cell? ⟨b,o + k * 8 + 1,none⟩ = some (.int .i64 ch.link) := d1 1 _ rfl
   have e2 : wr.cell? ⟨b,o + k * 8 + 2,none⟩ = some (.int .i64 ch.side) := d1 2 _ rfl
   have e3 : wr.cell? ⟨b,o + k * 8 + 3,none⟩ = some (.slice Ak m ck) := d1 3 _ rfl
   have e4 : wr.cell? ⟨b,o + k * 8 + 4,none⟩ = some (.int .i64 ch.pf) := d1 4 _ rfl
   have e5 : wr.cell? ⟨b,o + k * 8 + 5,none⟩ = some (.int .u64 (ch.ph : Int)) := d1 5 _ rfl
   have e6 : wr.cell? ⟨b,o + k * 8 + 6,none⟩ = some (.int .u64 (ch.pl : Int)) := d1 6 _ rfl
   have e7 : wr.cell? ⟨b,o + k * 8 + 7,none⟩ = some (.int .i64 ch.pb) := d1 7 _ rfl
   rw [Nat.add_zero] at e0
   have hsk3 := sk2.on (one wr (.cells (chC ch (.slice Ak m ck)) 92))
   have hP0 : Blk wr.heap.size (chC ch (.slice Ak m ck)) 92 (wr.alloc (.cells (chC ch (.slice Ak m ck)) 92)) := blk_new wr _ _
   have hbx := one wr (.cells (chC ch (.slice Ak m ck)) 92)
   have hold : ∀ (i : Nat) u g,ks[i]? = some u → u.ownBlock = some g → g < wr.heap.size := fun i u g hu hg => by
    obtain ⟨d,hd⟩ : ∃ d,dn[i]? = some d := ⟨_,List.getElem?_eq_getElem (by rw [← hrow.len];exact (List.getElem?_eq_some_iff.1 hu).1)⟩
    exact ((hrow.own i d u hd hu).lt g hg).2
   have hcall := bytes_copy HM Ak ck _ hLc hsk3
   have hsz := hbl.size
   clear d1 sk2 hm hsk3
   simp only [chC] at hcall hP0 hbx
   go_upto_region 7 with (go_at_call 38;refine hcall.mono ?_;rintro e w3 ⟨⟨Ae,ke,rfl,hoe⟩,hb3⟩;have hP3 := hP0.on hb3;have f3 := hP3.open_;have g3 : w3.cell? ⟨wr.heap.size,3,none⟩ = some (.slice Ak m ck) := hP3.cell rfl)
   have hP4 := hP3.set 3 (.slice Ae m ke)
   have hoe4 := own_set (j := 3) hP3 hoe (by decide) (.slice Ae m ke)
   have hbw := (hbx.trans (hb3.mono hbx.size)).setCell (p := ⟨wr.heap.size,3,none⟩) (Nat.le_refl _) (.slice Ae m ke)
   have hrow4 := hrow.on hbw
   have hbl4 := hbl.trans (hbw.mono hbl.size)
   have hoe5 : (w3.setCell ⟨wr.heap.size,3,none⟩ (.slice Ae m ke)).ownsRow w.heap.size 5 1 (.slice Ae m ke) ch.key.length (ch.key.map cel) := by rw [HM.out];exact own_low hoe4 (by simp;omega)
   have hapn : ∀ (i : Nat) u g,ks[i]? = some u → u.ownBlock = some g → (Value.slice Ae m ke).ownBlock ≠ some g := fun i u g hu hg e => by
    have h1 := hold i u g hu hg
    have h2 := (hoe.lt g e).1
    simp at h2
    omega
   clear hoe hoe4 hb3 hbx hP3 hP0 hrow hbl hbw f3 g3 e0 e1 e2 e3 e4 e5 e6 e7 hcall hold
   generalize w3.setCell ⟨wr.heap.size,3,none⟩ (.slice Ae m ke) = w4 at hP4 hrow4 hbl4 hoe5 ⊢
   have hP5 : Blk wr.heap.size (chC ch (.slice Ae m ke)) 92 w4 := hP4
   obtain ⟨e0,e1,e2,e3,e4,e5,e6,e7,fr⟩ := chC_cells hP5
   have hrw := hrow4.row
   rw [HK.out] at hrw
   have hsz4 := hbl4.size
   clear hP4 hP5
   go_wp2_with (at_builtin;go_loud (refine wpList_append_own _ rfl _ _ 22 rfl w.heap.size 92 i0 (.agg (chC chg0 (.slice none 0 0))) 8 80 Tryz.underlying22 hi0 hz0 hz1 hz2 rfl (by decide) _ _ _ rfl (hrw.alloc _) ⟨w4.heap.size,0,none⟩ 1 1 [_,_,_,_,_,_,_,_] rfl rfl (cells_at (by simp) _ _) ?c2 ?c3 ?c4 ?c5 ?_))
   case c2 => intro u hu;simp at hu;rcases hu with rfl | rfl | rfl | rfl | rfl | rfl | rfl | rfl <;> rfl
   case c3 => unfold maxLen;omega
   case c4 => omega
   case c5 => simp;omega
   intro v' w5 hown' hgrow _
   have hrow5 := hrow4.add (c := ch) hoe5 hapn _ (by rw [HK.out];exact hown') hgrow
   have hbk5 := (hbl4.alloc hbl4.size _).grown hgrow (by simp;omega) (fun j hj => (hrw.lt j hj).1)
   obtain ⟨A',c',rfl,-⟩ := own_sl hown'
   clear hrow4 hoe5 hbl4 hgrow hown' hrw e0 e1 e2 e3 e4 e5 e6 e7 fr
   go_wp2
   go_roundw
   case rel => exact ⟨k + 1,_,_,by omega,by go_num,HD2,Lib.hid (by rw [List.length_append,HK.out];rfl),⟨_,_,rfl⟩,hrow5,hbk5⟩
   case measure => simp [intOf];omega
  ·obtain rfl : k = n := by omega
   have i1 : ¬ (k : Int) < (k : Int) := by omega
   have hd : dn = l := by rw [HD.out,List.take_of_length_le (by rw [hn.out];exact Nat.le_refl _)]
   subst hd
   have HF := Lib.hid hrow
   clear hrow
   go_wp2
   go_ret
   first
    | exact ⟨⟨_,_,_,rfl,HF.out⟩,hbl⟩
    | exact ⟨⟨_,_,rfl,_,HF.out⟩,hbl⟩
theorem CRow.set {B R j : Nat} {v : Value} {l : List Chg} {kvs : List Value} {W : World} (h : CRow B v l kvs W) {vs : Array Value} (hB : Blk R vs 108 W) (x : Value) : CRow B v l kvs (W.setCell ⟨R,j,none⟩ x) :=
 h.move fun g c e he hc => Below.heap_setCell W ⟨R,j,none⟩ x g (fun e2 => by
  subst e2
  unfold Blk at hB
  rw [hB] at hc
  injection hc with hc
  injection hc with _ hc
  exact he hc.symm)
theorem CRow.low_of {B : Nat} {v : Value} {l : List Chg} {kvs : List Value} {W : World} (h : CRow B v l kvs W) : ∀ (i : Nat) u g,kvs[i]? = some u → u.ownBlock = some g → B ≤ g := fun i u g hu hg => by
 obtain ⟨d,hd⟩ : ∃ d,l[i]? = some d := ⟨_,List.getElem?_eq_getElem (by rw [← h.len];exact (List.getElem?_eq_some_iff.1 hu).1)⟩
 exact ((h.own i d u hd hu).lt g hg).1
set_option maxRecDepth 20000 in
theorem close_cop {W : World} {R : Nat} {a : Array Value} {t : TypeId} (h : Blk R a t W) (ha : a.size = 14) {tmps : Array Value} {Qp : Ending → World → Prop} {v0 v1 v2 v3 v4 v5 v6 v7 v8 v9 v10 v11 v12 v13 : Value}
  (h2 : (tmps[2]?).getD undef = .pointer (some ⟨R,0,none⟩))
  (hQ : ∀ W8 : World,(∀ B a,B ≤ R → Below B a W → Below B a W8) → (∀ g,g ≠ R → W8.heap[g]? = W.heap[g]?) → W8 = put14 W R v0 v1 v2 v3 v4 v5 v6 v7 v8 v9 v10 v11 v12 v13 → Qp (.returned (.agg #[v0,v1,v2,v3,v4,v5,v6,v7,v8,v9,v10,v11,v12,v13])) W8) :
  bodyPost Tryz.prog Tryz.f47 Qp .ret { tmps := tmps,defers := [] } (put14 W R v0 v1 v2 v3 v4 v5 v6 v7 v8 v9 v10 v11 v12 v13) := by
 have h8 := put14_blk h ha v0 v1 v2 v3 v4 v5 v6 v7 v8 v9 v10 v11 v12 v13
 have hQ' := hQ _ (fun B a hB hb => put14_below hb hB v0 v1 v2 v3 v4 v5 v6 v7 v8 v9 v10 v11 v12 v13) (fun g hg => put14_other W hg v0 v1 v2 v3 v4 v5 v6 v7 v8 v9 v10 v11 v12 v13) rfl
 clear hQ h
 generalize put14 W R v0 v1 v2 v3 v4 v5 v6 v7 v8 v9 v10 v11 v12 v13 = W8 at h8 hQ' ⊢
 have e0 : W8.cell? ⟨R,0,none⟩ = some v0 := h8.cell rfl
 have e1 : W8.cell? ⟨R,1,none⟩ = some v1 := h8.cell rfl
 have e2 : W8.cell? ⟨R,2,none⟩ = some v2 := h8.cell rfl
 have e3 : W8.cell? ⟨R,3,none⟩ = some v3 := h8.cell rfl
 have e4 : W8.cell? ⟨R,4,none⟩ = some v4 := h8.cell rfl
 have e5 : W8.cell? ⟨R,5,none⟩ = some v5 := h8.cell rfl
 have e6 : W8.cell? ⟨R,6,none⟩ = some v6 := h8.cell rfl
 have e7 : W8.cell? ⟨R,7,none⟩ = some v7 := h8.cell rfl
 have e8 : W8.cell? ⟨R,8,none⟩ = some v8 := h8.cell rfl
 have e9 : W8.cell? ⟨R,9,none⟩ = some v9 := h8.cell rfl
 have e10 : W8.cell? ⟨R,10,none⟩ = some v10 := h8.cell rfl
 have e11 : W8.cell? ⟨R,11,none⟩ = some v11 := h8.cell rfl
 have e12 : W8.cell? ⟨R,12,none⟩ = some v12 := h8.cell rfl
 have e13 : W8.cell? ⟨R,13,none⟩ = some v13 := h8.cell rfl
 clear h8
 exact bodyPost_ret (v := .agg #[v0,v1,v2,v3,v4,v5,v6,v7,v8,v9,v10,v11,v12,v13]) (by simp [results,Tryz.results47,go_sem, *]) rfl hQ'
set_option maxRecDepth 100000 in
set_option maxHeartbeats 4000000 in
theorem op_copy (o : Opp) (dv cv fv bv : Value) (kvs : List Value) (w : World) (hL : LimO o) (ha : ShOp w o dv cv fv bv kvs) :
  Calls Tryz.prog 47 #[.agg (opC o dv cv fv bv)] w fun e w' => (∃ dv' cv' fv' bv' kvs',SlV dv' ∧ SlV cv' ∧ SlV fv' ∧ SlV bv' ∧ e = .returned (.agg (opC o dv' cv' fv' bv')) ∧ OpO w.heap.size o dv' cv' fv' bv' kvs' w') ∧ Below w.heap.size w w' := by
 obtain ⟨ko,a,k,t,x,link,data,sec,nano,blk,wid,chs,fls,keep⟩ := o
 obtain ⟨l0,l1,l2,l3,l4,l5⟩ := hL
 obtain ⟨⟨A1,c1,rfl,h1,s1⟩,⟨A2,c2,rfl,h2,s2⟩,⟨A3,c3,rfl,h3,s3⟩,⟨A4,c4,rfl,h4,s4⟩⟩ := ha
 simp only at l0 l1 l2 l3 l4 l5 h1 h2 h3 h4 s1 s2 s3 s4
 simp only [opC]
 obtain ⟨n1,e1⟩ : ∃ n,data.length = n := ⟨_,rfl⟩
 obtain ⟨n2,e2⟩ : ∃ n,chs.length = n := ⟨_,rfl⟩
 obtain ⟨n3,e3⟩ : ∃ n,fls.length = n := ⟨_,rfl⟩
 obtain ⟨n4,e4⟩ : ∃ n,keep.length = n := ⟨_,rfl⟩
 rw [e1] at l1;rw [e2] at l2;rw [e3] at l3;rw [e4] at l4
 rw [e1,e2,e3,e4]
 have HN1 := Lib.hid e1
 have HN2 := Lib.hid e2
 have HN3 := Lib.hid e3
 have HN4 := Lib.hid e4
 clear e1 e2 e3 e4 h1 h2 h3 h4
 have hb0 : Below w.heap.size w ((w.alloc (.cells #[.int .i64 ko,.int .i64 a,.int .i64 k,.int .i64 t,.int .i64 x,.int .i64 link,.slice A1 n1 c1,.int .i64 sec,.int .i64 nano,.int .i64 blk,.int .i64 wid,.slice A2 n2 c2,.slice A3 n3 c3,.slice A4 n4 c4] 108)).alloc (.cells (opC opp0 nl nl nl nl) 108)) := (one w _).alloc (by simp) _
 have hP0 : Blk w.heap.size #[.int .i64 ko,.int .i64 a,.int .i64 k,.int .i64 t,.int .i64 x,.int .i64 link,.slice A1 n1 c1,.int .i64 sec,.int .i64 nano,.int .i64 blk,.int .i64 wid,.slice A2 n2 c2,.slice A3 n3 c3,.slice A4 n4 c4] 108 ((w.alloc (.cells #[.int .i64 ko,.int .i64 a,.int .i64 k,.int .i64 t,.int .i64 x,.int .i64 link,.slice A1 n1 c1,.int .i64 sec,.int .i64 nano,.int .i64 blk,.int .i64 wid,.slice A2 n2 c2,.slice A3 n3 c3,.slice A4 n4 c4] 108)).alloc (.cells (opC opp0 nl nl nl nl) 108)) := Blk.on (blk_new w _ _) (one _ _)
 have hR0 : Blk (w.heap.size + 1) (opC opp0 nl nl nl nl) 108 ((w.alloc (.cells #[.int .i64 ko,.int .i64 a,.int .i64 k,.int .i64 t,.int .i64 x,.int .i64 link,.slice A1 n1 c1,.int .i64 sec,.int .i64 nano,.int .i64 blk,.int .i64 wid,.slice A2 n2 c2,.slice A3 n3 c3,.slice A4 n4 c4] 108)).alloc (.cells (opC opp0 nl nl nl nl) 108)) := by
  have := blk_new (w.alloc (.cells #[.int .i64 ko,.int .i64 a,.int .i64 k,.int .i64 t,.int .i64 x,.int .i64 link,.slice A1 n1 c1,.int .i64 sec,.int .i64 nano,.int .i64 blk,.int .i64 wid,.slice A2 n2 c2,.slice A3 n3 c3,.slice A4 n4 c4] 108)) (opC opp0 nl nl nl nl) 108
  rwa [World.size_alloc] at this
 have hz0 : ((w.alloc (.cells #[.int .i64 ko,.int .i64 a,.int .i64 k,.int .i64 t,.int .i64 x,.int .i64 link,.slice A1 n1 c1,.int .i64 sec,.int .i64 nano,.int .i64 blk,.int .i64 wid,.slice A2 n2 c2,.slice A3 n3 c3,.slice A4 n4 c4] 108)).alloc (.cells (opC opp0 nl nl nl nl) 108)).heap.size = w.heap.size + 1 + 1 := by simp
 simp only [opC,opp0,nl] at hb0 hP0 hR0 hz0
 go_enter Tryz.func47,Tryz.ntmps47
 go_upto_region 1 with fail
 generalize (World.alloc (World.alloc w _) _) = W0 at hb0 hP0 hR0 hz0 ⊢
 have HS2 := Lib.hid s2
 have HS3 := Lib.hid s3
 have HS4 := Lib.hid s4
 have HL5 := Lib.hid l5
 have s1' := s1.on hb0
 clear s1 s2 s3 s4 l5
 have e6 : W0.cell? ⟨w.heap.size,6,none⟩ = some (.slice A1 n1 c1) := hP0.cell rfl
 go_upto_region 2 with (go_at_call 38;refine (bytes_copy HN1 A1 c1 W0 l1 s1').mono ?_;rintro e wx ⟨⟨B1,d1,rfl,ho⟩,hbc⟩;have hPx := hP0.on hbc;have fx := hPx.open_;have gx : wx.cell? ⟨w.heap.size,6,none⟩ = some (.slice A1 n1 c1) := hPx.cell rfl)
 have hP1 := hPx.set 6 (.slice B1 n1 d1)
 have hR1 := (hR0.on hbc).other (R := w.heap.size) (j := 6) (by omega) (.slice B1 n1 d1)
 have hb1 := (hb0.trans (hbc.mono hb0.size)).setCell (p := ⟨w.heap.size,6,none⟩) (Nat.le_refl _) (.slice B1 n1 d1)
 have hz1 : w.heap.size + 1 + 1 ≤ (wx.setCell ⟨w.heap.size,6,none⟩ (.slice B1 n1 d1)).heap.size := by have := hbc.size;simp;omega
 have o1 := own_set (j := 6) hPx ho (by decide) (.slice B1 n1 d1)
 have hlt1 : ∀ g,(.slice B1 n1 d1 : Value).ownBlock = some g → g < (wx.setCell ⟨w.heap.size,6,none⟩ (.slice B1 n1 d1)).heap.size := fun g hg => by have := (ho.lt g hg).2;simpa using this
 clear ho hbc hPx fx gx hP0 hR0 e6 hz0 s1'
 generalize wx.setCell ⟨w.heap.size,6,none⟩ (.slice B1 n1 d1) = W1 at hP1 hR1 hb1 hz1 o1 hlt1 ⊢
 have e11 : W1.cell? ⟨w.heap.size,11,none⟩ = some (.slice A2 n2 c2) := hP1.cell rfl
 go_upto_region 3 with (go_at_call 16;refine (changes_copy HN2 kvs A2 c2 W1 l2 (HS2.out.on hb1) HL5.out).mono ?_;rintro e wx ⟨⟨B2,d2,kvs2,rfl,ho⟩,hbc⟩;have hPx := hP1.on hbc;have fx := hPx.open_;have gx : wx.cell? ⟨w.heap.size,11,none⟩ = some (.slice A2 n2 c2) := hPx.cell rfl)
 have hP2 := hPx.set 11 (.slice B2 n2 d2)
 have hR2 := (hR1.on hbc).other (R := w.heap.size) (j := 11) (by omega) (.slice B2 n2 d2)
 have hb2 := (hb1.trans (hbc.mono hb1.size)).setCell (p := ⟨w.heap.size,11,none⟩) (Nat.le_refl _) (.slice B2 n2 d2)
 have hz2 : w.heap.size + 1 + 1 ≤ (wx.setCell ⟨w.heap.size,11,none⟩ (.slice B2 n2 d2)).heap.size := by have := hbc.size;simp;omega
 have o1 := own_set (j := 11) hPx (own_on o1 hbc) (by decide) (.slice B2 n2 d2)
 have hlo2 := ho.low_of
 have o2 := ho.set (j := 11) hPx (.slice B2 n2 d2)
 clear ho hbc hPx fx gx hP1 hR1 e11 hz1
 generalize wx.setCell ⟨w.heap.size,11,none⟩ (.slice B2 n2 d2) = W2 at hP2 hR2 hb2 hz2 o1 o2 ⊢
 have e12 : W2.cell? ⟨w.heap.size,12,none⟩ = some (.slice A3 n3 c3) := hP2.cell rfl
 go_upto_region 4 with (go_at_call 82;refine (faults_copy HN3 A3 c3 W2 l3 (HS3.out.on hb2)).mono ?_;rintro e wx ⟨⟨B3,d3,rfl,ho⟩,hbc⟩;have hPx := hP2.on hbc;have fx := hPx.open_;have gx : wx.cell? ⟨w.heap.size,12,none⟩ = some (.slice A3 n3 c3) := hPx.cell rfl)
 have hP3 := hPx.set 12 (.slice B3 n3 d3)
 have hR3 := (hR2.on hbc).other (R := w.heap.size) (j := 12) (by omega) (.slice B3 n3 d3)
 have hb3 := (hb2.trans (hbc.mono hb2.size)).setCell (p := ⟨w.heap.size,12,none⟩) (Nat.le_refl _) (.slice B3 n3 d3)
 have hz3 : w.heap.size + 1 + 1 ≤ (wx.setCell ⟨w.heap.size,12,none⟩ (.slice B3 n3 d3)).heap.size := by have := hbc.size;simp;omega
 have o1 := own_set (j := 12) hPx (own_on o1 hbc) (by decide) (.slice B3 n3 d3)
 have o2 := (o2.on hbc).set (j := 12) hPx (.slice B3 n3 d3)
 have o3 := own_set (j := 12) hPx ho (by decide) (.slice B3 n3 d3)
 clear ho hbc hPx fx gx hP2 hR2 e12 hz2
 generalize wx.setCell ⟨w.heap.size,12,none⟩ (.slice B3 n3 d3) = W3 at hP3 hR3 hb3 hz3 o1 o2 o3 ⊢
 have e13 : W3.cell? ⟨w.heap.size,13,none⟩ = some (.slice A4 n4 c4) := hP3.cell rfl
 go_upto_region 5 with (go_at_call 83;refine (bools_copy HN4 A4 c4 W3 l4 (HS4.out.on hb3)).mono ?_;rintro e wx ⟨⟨B4,d4,rfl,ho⟩,hbc⟩;have hPx := hP3.on hbc;have fx := hPx.open_;have gx : wx.cell? ⟨w.heap.size,13,none⟩ = some (.slice A4 n4 c4) := hPx.cell rfl)
 have hP4 := hPx.set 13 (.slice B4 n4 d4)
 have hR4 := (hR3.on hbc).other (R := w.heap.size) (j := 13) (by omega) (.slice B4 n4 d4)
 have hb4 := (hb3.trans (hbc.mono hb3.size)).setCell (p := ⟨w.heap.size,13,none⟩) (Nat.le_refl _) (.slice B4 n4 d4)
 have hz4 : w.heap.size + 1 + 1 ≤ (wx.setCell ⟨w.heap.size,13,none⟩ (.slice B4 n4 d4)).heap.size := by have := hbc.size;simp;omega
 have o1 := own_set (j := 13) hPx (own_on o1 hbc) (by decide) (.slice B4 n4 d4)
 have o2 := (o2.on hbc).set (j := 13) hPx (.slice B4 n4 d4)
 have o3 := own_set (j := 13) hPx (own_on o3 hbc) (by decide) (.slice B4 n4 d4)
 have o4 := own_set (j := 13) hPx ho (by decide) (.slice B4 n4 d4)
 clear ho hbc hPx fx gx hP3 hR3 e13 hz3
 generalize wx.setCell ⟨w.heap.size,13,none⟩ (.slice B4 n4 d4) = W4 at hP4 hR4 hb4 hz4 o1 o2 o3 o4 ⊢
 have e0 : W4.cell? ⟨w.heap.size,0,none⟩ = some (.int .i64 ko) := hP4.cell rfl
 have e1 : W4.cell? ⟨w.heap.size,1,none⟩ = some (.int .i64 a) := hP4.cell rfl
 have e2 : W4.cell? ⟨w.heap.size,2,none⟩ = some (.int .i64 k) := hP4.cell rfl
 have e3 : W4.cell? ⟨w.heap.size,3,none⟩ = some (.int .i64 t) := hP4.cell rfl
 have e4 : W4.cell? ⟨w.heap.size,4,none⟩ = some (.int .i64 x) := hP4.cell rfl
 have e5 : W4.cell? ⟨w.heap.size,5,none⟩ = some (.int .i64 link) := hP4.cell rfl
 have e6 : W4.cell? ⟨w.heap.size,6,none⟩ = some (.slice B1 n1 d1) := hP4.cell rfl
 have e7 : W4.cell? ⟨w.heap.size,7,none⟩ = some (.int .i64 sec) := hP4.cell rfl
 have e8 : W4.cell? ⟨w.heap.size,8,none⟩ = some (.int .i64 nano) := hP4.cell rfl
 have e9 : W4.cell? ⟨w.heap.size,9,none⟩ = some (.int .i64 blk) := hP4.cell rfl
 have e10 : W4.cell? ⟨w.heap.size,10,none⟩ = some (.int .i64 wid) := hP4.cell rfl
 have e11 : W4.cell? ⟨w.heap.size,11,none⟩ = some (.slice B2 n2 d2) := hP4.cell rfl
 have e12 : W4.cell? ⟨w.heap.size,12,none⟩ = some (.slice B3 n3 d3) := hP4.cell rfl
 have e13 : W4.cell? ⟨w.heap.size,13,none⟩ = some (.slice B4 n4 d4) := hP4.cell rfl
 have r0 : W4.cell? ⟨w.heap.size + 1,0,none⟩ = some (.int .i64 0) := hR4.cell rfl
 have r1 : W4.cell? ⟨w.heap.size + 1,1,none⟩ = some (.int .i64 0) := hR4.cell rfl
 have r2 : W4.cell? ⟨w.heap.size + 1,2,none⟩ = some (.int .i64 0) := hR4.cell rfl
 have r3 : W4.cell? ⟨w.heap.size + 1,3,none⟩ = some (.int .i64 0) := hR4.cell rfl
 have r4 : W4.cell? ⟨w.heap.size + 1,4,none⟩ = some (.int .i64 0) := hR4.cell rfl
 have r5 : W4.cell? ⟨w.heap.size + 1,5,none⟩ = some (.int .i64 0) := hR4.cell rfl
 have r6 : W4.cell? ⟨w.heap.size + 1,6,none⟩ = some (.slice none 0 0) := hR4.cell rfl
 have r7 : W4.cell? ⟨w.heap.size + 1,7,none⟩ = some (.int .i64 0) := hR4.cell rfl
 have r8 : W4.cell? ⟨w.heap.size + 1,8,none⟩ = some (.int .i64 0) := hR4.cell rfl
 have r9 : W4.cell? ⟨w.heap.size + 1,9,none⟩ = some (.int .i64 0) := hR4.cell rfl
 have r10 : W4.cell? ⟨w.heap.size + 1,10,none⟩ = some (.int .i64 0) := hR4.cell rfl
 have r11 : W4.cell? ⟨w.heap.size + 1,11,none⟩ = some (.slice none 0 0) := hR4.cell rfl
 have r12 : W4.cell? ⟨w.heap.size + 1,12,none⟩ = some (.slice none 0 0) := hR4.cell rfl
 have r13 : W4.cell? ⟨w.heap.size + 1,13,none⟩ = some (.slice none 0 0) := hR4.cell rfl
 have fr := hR4.open_
 have zz0 := hb0.size
 have zz1 := hb1.size
 have zz2 := hb2.size
 have zz3 := hb3.size
 have HO : Hid (OpO w.heap.size ⟨ko,a,k,t,x,link,data,sec,nano,blk,wid,chs,fls,keep⟩ (.slice B1 n1 d1) (.slice B2 n2 d2) (.slice B3 n3 d3) (.slice B4 n4 d4) kvs2 W4) := Lib.hid ⟨by rw [HN1.out];exact own_low o1 (by omega),o2.low (by omega),by rw [HN3.out];exact own_low o3 (by omega),by rw [HN4.out];exact own_low o4 (by omega),fun i u g hu hg e => by
  have h1 := hlt1 g e
  have h2 := hlo2 i u g hu hg
  omega⟩
 have HR4 := Lib.hid hR4
 have HB4 := Lib.hid hb4
 clear o1 o2 o3 o4 hP4 hR4 hb4 hb3 hb2 hb1
 go_wp2
 refine close_cop HR4.out rfl rfl fun W8 hb8 ho8 hW8 => ⟨⟨_,_,_,_,kvs2,sl_slice _ _ _,sl_slice _ _ _,sl_slice _ _ _,sl_slice _ _ _,rfl,?_⟩,hb8 _ _ (by omega) HB4.out⟩
 rw [hW8]
 exact HO.out.put HR4.out _ _ _ _ _ _ _ _ _ _ _ _ _ _
end Go.Proofs.YtpkmekdpmkfcdaaGreatDoor.Sr
