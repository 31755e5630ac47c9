/- Contract: a letter's field filled. Contract: a letter's field filled by its words. Contract: the words that a step wants; what stands at the end of a step's walk. -/
import Derived.Test.YtpkmekdpmkfcdaaGreatDoorSmB
import Derived.Deep.RegionLaw
import Derived.RegionTactic
namespace Go.Proofs.YtpkmekdpmkfcdaaGreatDoor.Sr
set_option linter.unusedVariables false
set_option linter.unusedSimpArgs false
open Go.RowKit Go.Proofs.YtpkmekdpmkfcdaaGreatDoor.Wd Go.Proofs.YtpkmekdpmkfcdaaGreatDoor.Px Go.Proofs.YtpkmekdpmkfcdaaGreatDoor.By Go.Proofs.YtpkmekdpmkfcdaaGreatDoor.En Go.Proofs.YtpkmekdpmkfcdaaGreatDoor.Pl Go.Proofs.YtpkmekdpmkfcdaaGreatDoor.Pf Go.Proofs.YtpkmekdpmkfcdaaGreatDoor.Sc
/-! ### a step's cells -/
def opC (o : Opp) (dv cv fv bv : Value) : Array Value := #[.int .i64 o.kind,.int .i64 o.a,.int .i64 o.k,.int .i64 o.t,.int .i64 o.x,.int .i64 o.link,dv,.int .i64 o.sec,.int .i64 o.nano,.int .i64 o.blk,.int .i64 o.wid,cv,fv,bv]
/-- a block that holds these cells of this type -/
def Blk (R : Nat) (vs : Array Value) (t : TypeId) (W : World) : Prop := W.heap[R]? = some (.cells vs t (0,0))
theorem Blk.cell {R : Nat} {vs : Array Value} {t : TypeId} {W : World} (h : Blk R vs t W) {j : Nat} {v : Value} (hv : vs[j]? = some v) : W.cell? ⟨R,j,none⟩ = some v := (blk_cell h j).trans hv
theorem Blk.open_ {R : Nat} {vs : Array Value} {t : TypeId} {W : World} (h : Blk R vs t W) : ∀ o,W.frozen? ⟨R,o,none⟩ = false := blk_open h
theorem Blk.lt {R : Nat} {vs : Array Value} {t : TypeId} {W : World} (h : Blk R vs t W) : R < W.heap.size := blk_lt h
theorem Blk.on {R : Nat} {vs : Array Value} {t : TypeId} {W W' : World} (h : Blk R vs t W) (hb : Below W.heap.size W W') : Blk R vs t W' := (hb.block R h.lt).trans h
theorem Blk.set {R : Nat} {vs : Array Value} {t : TypeId} {W : World} (h : Blk R vs t W) (j : Nat) (v : Value) : Blk R (vs.setIfInBounds j v) t (W.setCell ⟨R,j,none⟩ v) := heap_setCell_same W R j vs t v h
/-- rows of another type lie elsewhere -/
theorem Blk.apart {R : Nat} {vs : Array Value} {t : TypeId} {W : World} (h : Blk R vs t W) {b s n : Nat} {e : TypeId} {v : Value} {xs : List Value} (ho : W.ownsRow b e s v n xs) (he : e ≠ t) {g : Nat} (hg : v.ownBlock = some g) : g ≠ R := fun e2 => by
 subst e2
 obtain ⟨c,hc⟩ := own_kind ho hg
 unfold Blk at h
 rw [h] at hc
 injection hc with hc
 injection hc with _ hc
 exact he hc.symm
theorem own_set {R j : Nat} {vs : Array Value} {t : TypeId} {W : World} (h : Blk R vs t W) {b s n : Nat} {e : TypeId} {v : Value} {xs : List Value} (ho : W.ownsRow b e s v n xs) (he : e ≠ t) (x : Value) : (W.setCell ⟨R,j,none⟩ x).ownsRow b e s v n xs :=
 own_same ho fun g hg => Below.heap_setCell W ⟨R,j,none⟩ x g (h.apart ho he hg)
/-- what a step owns -/
structure OpO (B : Nat) (o : Opp) (dv cv fv bv : Value) (kvs : List Value) (W : World) : Prop where
 data : W.ownsRow B 5 1 dv o.data.length (o.data.map cel)
 chs : CRow B cv o.chs kvs W
 fls : W.ownsRow B 125 2 fv o.fls.length (o.fls.flatMap fltC)
 keep : W.ownsRow B 4 1 bv o.keep.length (o.keep.map Value.bool)
 ap : ∀ (i : Nat) u g,kvs[i]? = some u → u.ownBlock = some g → dv.ownBlock ≠ some g
theorem CRow.move {B : Nat} {v : Value} {l : List Chg} {kvs : List Value} {W W' : World} (h : CRow B v l kvs W) (hm : ∀ (g : Nat) (c : Array Value) (e : TypeId),e ≠ 108 → W.heap[g]? = some (.cells c e (0,0)) → W'.heap[g]? = W.heap[g]?) : CRow B v l kvs W' :=
 ⟨h.len,own_same h.row fun g hg => by obtain ⟨c,hc⟩ := own_kind h.row hg;exact hm g c 92 (by decide) hc,
  fun i c kv hc hk => own_same (h.own i c kv hc hk) fun g hg => by obtain ⟨c2,hc2⟩ := own_kind (h.own i c kv hc hk) hg;exact hm g c2 5 (by decide) hc2,h.ap⟩
theorem OpO.move {B : Nat} {o : Opp} {dv cv fv bv : Value} {kvs : List Value} {W W' : World} (h : OpO B o dv cv fv bv kvs W) (hm : ∀ (g : Nat) (c : Array Value) (e : TypeId),e ≠ 108 → W.heap[g]? = some (.cells c e (0,0)) → W'.heap[g]? = W.heap[g]?) : OpO B o dv cv fv bv kvs W' :=
 ⟨own_same h.data fun g hg => by obtain ⟨c,hc⟩ := own_kind h.data hg;exact hm g c 5 (by decide) hc,h.chs.move hm,
  own_same h.fls fun g hg => by obtain ⟨c,hc⟩ := own_kind h.fls hg;exact hm g c 125 (by decide) hc,
  own_same h.keep fun g hg => by obtain ⟨c,hc⟩ := own_kind h.keep hg;exact hm g c 4 (by decide) hc,h.ap⟩
theorem OpO.on {B : Nat} {o : Opp} {dv cv fv bv : Value} {kvs : List Value} {W W' : World} (h : OpO B o dv cv fv bv kvs W) (hb : Below W.heap.size W W') : OpO B o dv cv fv bv kvs W' :=
 h.move fun g c e _ hc => hb.block g (blk_lt hc)
theorem OpO.set {B R j : Nat} {o : Opp} {dv cv fv bv : Value} {kvs : List Value} {W : World} (h : OpO B o dv cv fv bv kvs W) {vs : Array Value} (hB : Blk R vs 108 W) (x : Value) : OpO B o dv cv fv bv kvs (W.setCell ⟨R,j,none⟩ x) :=
 h.move fun g c e he hc => Below.heap_setCell W ⟨R,j,none⟩ x g (fun e2 => by
  subst e2
  unfold Blk at hB
  rw [hB] at hc
  injection hc with hc
  injection hc with _ hc
  exact he hc.symm)
/-! ### where a letter's number stands -/
def isNum (c : UInt8) : Prop := c = 65 ∨ c = 75 ∨ c = 76 ∨ c = 84 ∨ c = 88 ∨ c = 98 ∨ c = 119
def offN (c : UInt8) : Nat := if c = 65 then 1 else if c = 75 then 2 else if c = 76 then 5 else if c = 84 then 3 else if c = 88 then 4 else if c = 98 then 9 else 10
theorem opC_set (o : Opp) (dv cv fv bv : Value) (c : UInt8) (n : Int) : (opC o dv cv fv bv).setIfInBounds (offN c) (.int .i64 n) = opC (setN o c n) dv cv fv bv := by
 unfold offN setN
 repeat' split
 all_goals rfl
theorem place_any (R : Nat) (c : UInt8) (hc : isNum c) (w : World) :
  Calls Tryz.prog 167 #[.pointer (some ⟨R,0,none⟩),.int .i32 (c.toNat : Int)] w fun e w' => e = .returned (.pointer (some ⟨R,offN c,none⟩)) ∧ w' = w := by
 rcases hc with rfl | rfl | rfl | rfl | rfl | rfl | rfl
 all_goals
  go_enter Tryz.func167,Tryz.ntmps167
  go_wp2
  go_ret
  exact ⟨rfl,rfl⟩
end Go.Proofs.YtpkmekdpmkfcdaaGreatDoor.Sr
namespace Go.Proofs.YtpkmekdpmkfcdaaGreatDoor.Sr
set_option linter.unusedVariables false
set_option linter.unusedSimpArgs false
open Go.RowKit Go.Proofs.YtpkmekdpmkfcdaaGreatDoor.Wd Go.Proofs.YtpkmekdpmkfcdaaGreatDoor.Px Go.Proofs.YtpkmekdpmkfcdaaGreatDoor.By Go.Proofs.YtpkmekdpmkfcdaaGreatDoor.En Go.Proofs.YtpkmekdpmkfcdaaGreatDoor.Pl Go.Proofs.YtpkmekdpmkfcdaaGreatDoor.Pf Go.Proofs.YtpkmekdpmkfcdaaGreatDoor.Sc
def SlV (v : Value) : Prop := ∃ A n c,v = .slice A n c
/-- all but the block R lies as it lay -/
structure Ex (R : Nat) (w w' : World) : Prop where
 size : w.heap.size ≤ w'.heap.size
 blk : ∀ g,g < w.heap.size → g ≠ R → w'.heap[g]? = w.heap[g]?
 bl : ∀ (B : Nat) (a : World),B ≤ R → Below B a w → Below B a w'
theorem Ex.of {R : Nat} {w w' : World} (hb : Below w.heap.size w w') (hR : R < w.heap.size) : Ex R w w' := ⟨hb.size,fun g hg _ => hb.block g hg,fun B a hB h => h.trans (hb.mono (by omega))⟩
theorem Ex.set {R j : Nat} {w w' : World} (h : Ex R w w') (v : Value) : Ex R w (w'.setCell ⟨R,j,none⟩ v) := ⟨by simpa using h.size,fun g hg hn => (Below.heap_setCell w' ⟨R,j,none⟩ v g hn).trans (h.blk g hg hn),fun B a hB hb => (h.bl B a hB hb).setCell hB v⟩
def FieldR (R B : Nat) (o : Opp) (c : UInt8) (l : List (List UInt8)) (w : World) (e : Ending) (w' : World) : Prop :=
 ∃ o' dv cv fv bv kvs,SlV dv ∧ SlV cv ∧ SlV fv ∧ SlV bv ∧ Blk R (opC o' dv cv fv bv) 108 w' ∧ Ex R w w' ∧ match fld o c l with
  | .ok o2 => e = .returned (.int .i64 0) ∧ o2 = o' ∧ OpO B o' dv cv fv bv kvs w'
  | .error x => e = .returned (.int .i64 x)
theorem sl_slice (A : Option Addr) (n c : Nat) : SlV (.slice A n c) := ⟨_,_,_,rfl⟩
theorem stampp_as {t : List UInt8} {o : Option (Int × Int)} (h : Hid (prs t = o)) (ht : t.length ≤ 140737488355328) (w : World) (hE : Env w) :
  Calls Tryz.prog 164 #[.string ⟨t.toArray⟩] w fun e w' => e = .returned (St.ofPrs o) ∧ Below w.heap.size w w' := by
 have := St.parse_any ⟨t.toArray⟩ w ht hE
 rw [show (⟨t.toArray⟩ : ByteArray).data.toList = t from rfl,h.out] at this
 exact this
theorem faults_as {l : List (List UInt8)} {n : Nat} (hn : Hid (l.length = n)) (A : Option Addr) (c : Nat) (w : World) (hE : Env w) (hl : n ≤ 2000000) (hc : n ≤ c) (hs : Shows strc w w.heap.size A l) (hw : ∀ x ∈ l,x.length ≤ 2000000) :
  Calls Tryz.prog 166 #[.slice A n c] w fun e w' => FaultsR (flts l) w e w' ∧ Below w.heap.size w w' := by
 have hn := hn.out
 subst hn
 exact faults_any l A c w hE hl hc hs hw
theorem list_as {l : List (List UInt8)} {n : Nat} (hn : Hid (l.length = n)) (A : Option Addr) (c : Nat) (w : World) (hE : Env w) (hT : Tabs w) (hl : n ≤ 2000000) (hc : n ≤ c) (hs : Shows strc w w.heap.size A l) (hw : ∀ x ∈ l,x.length ≤ 2000000) :
  Calls Tryz.prog 31 #[.slice A n c] w fun e w' => ListR (chgs l) w e w' ∧ Below w.heap.size w w' := by
 have hn := hn.out
 subst hn
 exact list_any l A c w hE hT hl hc hs hw
theorem CRow.low {B B' : Nat} {v : Value} {l : List Chg} {kvs : List Value} {W : World} (h : CRow B v l kvs W) (hB : B' ≤ B) : CRow B' v l kvs W :=
 ⟨h.len,own_low h.row hB,fun i c kv hc hk => own_low (h.own i c kv hc hk) hB,h.ap⟩
variable (R B n cc : Nat) (o : Opp) (A : Option Addr) (l : List (List UInt8)) (w : World)
set_option maxRecDepth 20000 in
set_option maxHeartbeats 1600000 in
theorem field_H (hE : Env w) (h1 : 0 < n) {dv cv fv bv : Value} {kvs : List Value} (hd : SlV dv) (hcv : SlV cv) (hf : SlV fv) (hbv : SlV bv) (hB : Blk R (opC o dv cv fv bv) 108 w) (hO : OpO B o dv cv fv bv kvs w) (hBw : B ≤ w.heap.size) (HN : Hid (l.length = n)) (hn : n ≤ 2000000) (hc : n ≤ cc) (hs : Shows strc w w.heap.size A l) (hw : ∀ x ∈ l,x.length ≤ 2000000):
  Calls Tryz.prog 80 #[.pointer (some ⟨R,0,none⟩),.int .i32 72,.slice A n cc] w fun e w' => FieldR R B o 72 l w e w' := by
 obtain ⟨y,r,rfl⟩ : ∃ y r,l = y :: r := by
  cases l with
  | nil => have := HN.out;simp at this;omega
  | cons y r => exact ⟨y,r,rfl⟩
 obtain ⟨bb,oo,rfl,hbb,hcell⟩ := hs (by simp)
 have cy := hcell 0 y rfl
 rw [Nat.add_zero] at cy
 unfold strc at cy
 have hyl := hw y (by simp)
 have hRl := hB.lt
 have i1 : (0 : Int) < (n : Int) := by omega
 clear hw hcell HN
 have e6 := hB.cell (j := 6) rfl
 have ef := hB.open_
 obtain ⟨Ad,nd,cd,rfl⟩ := hd
 go_enter Tryz.func80,Tryz.ntmps80
 go_wp2_with fail
 refine (hex_any y (by omega) w).mono ?_
 rintro e w3 ⟨hres,hb3⟩
 have hB3 := hB.on hb3
 have hO3 := hO.on hb3
 have hX3 := Ex.of hb3 hRl
 have hR3 := hB3.lt
 replace e6 := keepc hb3 e6
 replace ef := keepf hb3 hRl ef
 cases ho1 : hexW y with
 | none =>
  rw [ho1] at hres
  obtain rfl := hres
  have HF : Hid (fld o 72 (y :: r) = .error 225) := Lib.hid (by unfold fld;rw [if_pos rfl,List.headD_cons,ho1])
  have hB4 := hB3.set 6 (.slice none 0 0)
  have hX4 := hX3.set (j := 6) (.slice none 0 0)
  clear ho1 hb3 hO
  go_wp2
  go_ret
  exact ⟨o,.slice none 0 0,cv,fv,bv,kvs,sl_slice _ _ _,hcv,hf,hbv,hB4,hX4,by rw [HF.out];exact rfl⟩
 | some b =>
  rw [ho1] at hres
  obtain ⟨Ab,kb,rfl,hob⟩ := hres
  have HF : Hid (fld o 72 (y :: r) = .ok { o with data := b }) := Lib.hid (by unfold fld;rw [if_pos rfl,List.headD_cons,ho1])
  obtain ⟨nb,hnb⟩ : ∃ nb,b.length = nb := ⟨_,rfl⟩
  have hob' := own_low hob hBw
  have hap : ∀ (i : Nat) u g,kvs[i]? = some u → u.ownBlock = some g → (Value.slice Ab b.length kb).ownBlock ≠ some g := fun i u g hu hg e => by
   obtain ⟨d,hd⟩ : ∃ d,o.chs[i]? = some d := ⟨_,List.getElem?_eq_getElem (by rw [← hO.chs.len];exact (List.getElem?_eq_some_iff.1 hu).1)⟩
   have h1 := ((hO.chs.own i d u hd hu).lt g hg).2
   have h2 := (hob.lt g e).1
   omega
  have hO4 : OpO B { o with data := b } (.slice Ab b.length kb) cv fv bv kvs w3 := ⟨hob',hO3.chs,hO3.fls,hO3.keep,hap⟩
  have hB4 := hB3.set 6 (.slice Ab b.length kb)
  have hO5 := hO4.set (j := 6) hB3 (.slice Ab b.length kb)
  have hX4 := hX3.set (j := 6) (.slice Ab b.length kb)
  rw [hnb] at hB4 hO5 hX4 ⊢
  clear ho1 hb3 hO hnb hob hob' hap hO4
  go_wp2
  go_ret
  exact ⟨{ o with data := b },.slice Ab nb kb,cv,fv,bv,kvs,sl_slice _ _ _,hcv,hf,hbv,hB4,hX4,by rw [HF.out];exact ⟨rfl,rfl,hO5⟩⟩
set_option maxRecDepth 20000 in
set_option maxHeartbeats 1600000 in
theorem field_S (hE : Env w) (h1 : 0 < n) {dv cv fv bv : Value} {kvs : List Value} (hd : SlV dv) (hcv : SlV cv) (hf : SlV fv) (hbv : SlV bv) (hB : Blk R (opC o dv cv fv bv) 108 w) (hO : OpO B o dv cv fv bv kvs w) (hBw : B ≤ w.heap.size) (HN : Hid (l.length = n)) (hn : n ≤ 2000000) (hc : n ≤ cc) (hs : Shows strc w w.heap.size A l) (hw : ∀ x ∈ l,x.length ≤ 2000000):
  Calls Tryz.prog 80 #[.pointer (some ⟨R,0,none⟩),.int .i32 83,.slice A n cc] w fun e w' => FieldR R B o 83 l w e w' := by
 obtain ⟨y,r,rfl⟩ : ∃ y r,l = y :: r := by
  cases l with
  | nil => have := HN.out;simp at this;omega
  | cons y r => exact ⟨y,r,rfl⟩
 obtain ⟨bb,oo,rfl,hbb,hcell⟩ := hs (by simp)
 have cy := hcell 0 y rfl
 rw [Nat.add_zero] at cy
 unfold strc at cy
 have hyl := hw y (by simp)
 have hRl := hB.lt
 have i1 : (0 : Int) < (n : Int) := by omega
 clear hw hcell HN
 have e7 := hB.cell (j := 7) rfl
 have e8 := hB.cell (j := 8) rfl
 have ef := hB.open_
 obtain ⟨o1,ho1⟩ : ∃ q,prs y = q := ⟨_,rfl⟩
 have HP := Lib.hid ho1
 clear ho1
 go_enter Tryz.func80,Tryz.ntmps80
 go_wp2_with fail
 refine (stampp_as HP (by omega) w hE).mono ?_
 rintro e w3 ⟨rfl,hb3⟩
 have hB3 := hB.on hb3
 have hO3 := hO.on hb3
 have hX3 := Ex.of hb3 hRl
 have hR3 := hB3.lt
 replace e7 := keepc hb3 e7
 replace e8 := keepc hb3 e8
 replace ef := keepf hb3 hRl ef
 cases o1 with
 | none =>
  have HF : Hid (fld o 83 (y :: r) = .error 60) := Lib.hid (by unfold fld;rw [if_neg (by decide),if_pos rfl,List.headD_cons,HP.out])
  have hB4 := (hB3.set 7 (.int .i64 0)).set 8 (.int .i64 0)
  have hX4 := (hX3.set (j := 7) (.int .i64 0)).set (j := 8) (.int .i64 0)
  simp only [St.ofPrs]
  clear hb3 hO
  go_wp2
  go_ret
  exact ⟨{ o with sec := 0,nano := 0 },dv,cv,fv,bv,kvs,hd,hcv,hf,hbv,hB4,hX4,by rw [HF.out];exact rfl⟩
 | some q =>
  obtain ⟨q1,q2⟩ := q
  have HF : Hid (fld o 83 (y :: r) = .ok { o with sec := q1,nano := q2 }) := Lib.hid (by unfold fld;rw [if_neg (by decide),if_pos rfl,List.headD_cons,HP.out])
  have hO4 : OpO B { o with sec := q1,nano := q2 } dv cv fv bv kvs w3 := ⟨hO3.data,hO3.chs,hO3.fls,hO3.keep,hO3.ap⟩
  have hB4 := (hB3.set 7 (.int .i64 q1)).set 8 (.int .i64 q2)
  have hO5 := (hO4.set (j := 7) hB3 (.int .i64 q1)).set (j := 8) (hB3.set 7 (.int .i64 q1)) (.int .i64 q2)
  have hX4 := (hX3.set (j := 7) (.int .i64 q1)).set (j := 8) (.int .i64 q2)
  simp only [St.ofPrs]
  clear hb3 hO hO4
  go_wp2
  go_ret
  exact ⟨{ o with sec := q1,nano := q2 },dv,cv,fv,bv,kvs,hd,hcv,hf,hbv,hB4,hX4,by rw [HF.out];exact ⟨rfl,rfl,hO5⟩⟩
set_option maxRecDepth 20000 in
set_option maxHeartbeats 1600000 in
theorem field_B (hE : Env w) (h1 : 0 < n) {dv cv fv bv : Value} {kvs : List Value} (hd : SlV dv) (hcv : SlV cv) (hf : SlV fv) (hbv : SlV bv) (hB : Blk R (opC o dv cv fv bv) 108 w) (hO : OpO B o dv cv fv bv kvs w) (hBw : B ≤ w.heap.size) (HN : Hid (l.length = n)) (hn : n ≤ 2000000) (hc : n ≤ cc) (hs : Shows strc w w.heap.size A l) (hw : ∀ x ∈ l,x.length ≤ 2000000):
  Calls Tryz.prog 80 #[.pointer (some ⟨R,0,none⟩),.int .i32 66,.slice A n cc] w fun e w' => FieldR R B o 66 l w e w' := by
 obtain ⟨y,r,rfl⟩ : ∃ y r,l = y :: r := by
  cases l with
  | nil => have := HN.out;simp at this;omega
  | cons y r => exact ⟨y,r,rfl⟩
 obtain ⟨bb,oo,rfl,hbb,hcell⟩ := hs (by simp)
 have cy := hcell 0 y rfl
 rw [Nat.add_zero] at cy
 unfold strc at cy
 have hyl := hw y (by simp)
 have hRl := hB.lt
 have i1 : (0 : Int) < (n : Int) := by omega
 clear hw hcell HN
 have e6 := hB.cell (j := 13) rfl
 have ef := hB.open_
 obtain ⟨Ad,nd,cd,rfl⟩ := hbv
 go_enter Tryz.func80,Tryz.ntmps80
 go_wp2_with fail
 refine (flags_any y (by omega) w).mono ?_
 rintro e w3 ⟨hres,hb3⟩
 have hB3 := hB.on hb3
 have hO3 := hO.on hb3
 have hX3 := Ex.of hb3 hRl
 have hR3 := hB3.lt
 replace e6 := keepc hb3 e6
 replace ef := keepf hb3 hRl ef
 cases ho1 : bitW y with
 | none =>
  rw [ho1] at hres
  obtain rfl := hres
  have HF : Hid (fld o 66 (y :: r) = .error 223) := Lib.hid (by unfold fld;rw [if_neg (by decide),if_neg (by decide),if_pos rfl,List.headD_cons,ho1])
  have hB4 := hB3.set 13 (.slice none 0 0)
  have hX4 := hX3.set (j := 13) (.slice none 0 0)
  clear ho1 hb3 hO
  go_wp2
  go_ret
  exact ⟨o,dv,cv,fv,.slice none 0 0,kvs,hd,hcv,hf,sl_slice _ _ _,hB4,hX4,by rw [HF.out];exact rfl⟩
 | some b =>
  rw [ho1] at hres
  obtain ⟨Ab,kb,rfl,hob⟩ := hres
  have HF : Hid (fld o 66 (y :: r) = .ok { o with keep := b }) := Lib.hid (by unfold fld;rw [if_neg (by decide),if_neg (by decide),if_pos rfl,List.headD_cons,ho1])
  obtain ⟨nb,hnb⟩ : ∃ nb,b.length = nb := ⟨_,rfl⟩
  have hO4 : OpO B { o with keep := b } dv cv fv (.slice Ab b.length kb) kvs w3 := ⟨hO3.data,hO3.chs,hO3.fls,own_low hob hBw,hO3.ap⟩
  have hB4 := hB3.set 13 (.slice Ab b.length kb)
  have hO5 := hO4.set (j := 13) hB3 (.slice Ab b.length kb)
  have hX4 := hX3.set (j := 13) (.slice Ab b.length kb)
  rw [hnb] at hB4 hO5 hX4 ⊢
  clear ho1 hb3 hO hnb hob hO4
  go_wp2
  go_ret
  exact ⟨{ o with keep := b },dv,cv,fv,.slice Ab nb kb,kvs,hd,hcv,hf,sl_slice _ _ _,hB4,hX4,by rw [HF.out];exact ⟨rfl,rfl,hO5⟩⟩
set_option maxRecDepth 20000 in
set_option maxHeartbeats 1600000 in
theorem field_F (hE : Env w) {dv cv fv bv : Value} {kvs : List Value} (hd : SlV dv) (hcv : SlV cv) (hf : SlV fv) (hbv : SlV bv) (hB : Blk R (opC o dv cv fv bv) 108 w) (hO : OpO B o dv cv fv bv kvs w) (hBw : B ≤ w.heap.size) (HN : Hid (l.length = n)) (hn : n ≤ 2000000) (hc : n ≤ cc) (hs : Shows strc w w.heap.size A l) (hw : ∀ x ∈ l,x.length ≤ 2000000):
  Calls Tryz.prog 80 #[.pointer (some ⟨R,0,none⟩),.int .i32 70,.slice A n cc] w fun e w' => FieldR R B o 70 l w e w' := by
 have hRl := hB.lt
 have e6 := hB.cell (j := 12) rfl
 have ef := hB.open_
 obtain ⟨Ad,nd,cd,rfl⟩ := hf
 go_enter Tryz.func80,Tryz.ntmps80
 go_wp2_with fail
 refine (faults_as HN A cc w hE hn hc hs hw).mono ?_
 rintro e w3 ⟨hres,hb3⟩
 have hB3 := hB.on hb3
 have hO3 := hO.on hb3
 have hX3 := Ex.of hb3 hRl
 have hR3 := hB3.lt
 replace e6 := keepc hb3 e6
 replace ef := keepf hb3 hRl ef
 cases ho1 : flts l with
 | error x =>
  rw [ho1] at hres
  obtain rfl := hres
  have HF : Hid (fld o 70 l = .error x) := Lib.hid (by unfold fld;rw [if_neg (by decide),if_neg (by decide),if_neg (by decide),if_pos rfl,ho1])
  have hB4 := hB3.set 12 (.slice none 0 0)
  have hX4 := hX3.set (j := 12) (.slice none 0 0)
  clear ho1 hb3 hO
  go_wp2
  go_ret
  exact ⟨o,dv,cv,.slice none 0 0,bv,kvs,hd,hcv,sl_slice _ _ _,hbv,hB4,hX4,by rw [HF.out];exact rfl⟩
 | ok b =>
  rw [ho1] at hres
  obtain ⟨Ab,kb,rfl,hob⟩ := hres
  have HF : Hid (fld o 70 l = .ok { o with fls := b }) := Lib.hid (by unfold fld;rw [if_neg (by decide),if_neg (by decide),if_neg (by decide),if_pos rfl,ho1])
  obtain ⟨nb,hnb⟩ : ∃ nb,b.length = nb := ⟨_,rfl⟩
  have hO4 : OpO B { o with fls := b } dv cv (.slice Ab b.length kb) bv kvs w3 := ⟨hO3.data,hO3.chs,own_low hob hBw,hO3.keep,hO3.ap⟩
  have hB4 := hB3.set 12 (.slice Ab b.length kb)
  have hO5 := hO4.set (j := 12) hB3 (.slice Ab b.length kb)
  have hX4 := hX3.set (j := 12) (.slice Ab b.length kb)
  rw [hnb] at hB4 hO5 hX4 ⊢
  clear ho1 hb3 hO hnb hob hO4
  go_wp2
  go_ret
  exact ⟨{ o with fls := b },dv,cv,.slice Ab nb kb,bv,kvs,hd,hcv,sl_slice _ _ _,hbv,hB4,hX4,by rw [HF.out];exact ⟨rfl,rfl,hO5⟩⟩
set_option maxRecDepth 20000 in
set_option maxHeartbeats 1600000 in
theorem field_C (hE : Env w) (hT : Tabs w) {dv cv fv bv : Value} {kvs : List Value} (hd : SlV dv) (hcv : SlV cv) (hf : SlV fv) (hbv : SlV bv) (hB : Blk R (opC o dv cv fv bv) 108 w) (hO : OpO B o dv cv fv bv kvs w) (hBw : B ≤ w.heap.size) (HN : Hid (l.length = n)) (hn : n ≤ 2000000) (hc : n ≤ cc) (hs : Shows strc w w.heap.size A l) (hw : ∀ x ∈ l,x.length ≤ 2000000):
  Calls Tryz.prog 80 #[.pointer (some ⟨R,0,none⟩),.int .i32 67,.slice A n cc] w fun e w' => FieldR R B o 67 l w e w' := by
 have hRl := hB.lt
 have e6 := hB.cell (j := 11) rfl
 have ef := hB.open_
 obtain ⟨Ad,nd,cd,rfl⟩ := hcv
 go_enter Tryz.func80,Tryz.ntmps80
 go_wp2_with fail
 refine (list_as HN A cc w hE hT hn hc hs hw).mono ?_
 rintro e w3 ⟨hres,hb3⟩
 have hB3 := hB.on hb3
 have hO3 := hO.on hb3
 have hX3 := Ex.of hb3 hRl
 have hR3 := hB3.lt
 replace e6 := keepc hb3 e6
 replace ef := keepf hb3 hRl ef
 cases ho1 : chgs l with
 | error x =>
  rw [ho1] at hres
  obtain rfl := hres
  have HF : Hid (fld o 67 l = .error x) := Lib.hid (by unfold fld;rw [if_neg (by decide),if_neg (by decide),if_neg (by decide),if_neg (by decide),if_pos rfl,ho1])
  have hB4 := hB3.set 11 (.slice none 0 0)
  have hX4 := hX3.set (j := 11) (.slice none 0 0)
  clear ho1 hb3 hO
  go_wp2
  go_ret
  exact ⟨o,dv,.slice none 0 0,fv,bv,kvs,hd,sl_slice _ _ _,hf,hbv,hB4,hX4,by rw [HF.out];exact rfl⟩
 | ok b =>
  rw [ho1] at hres
  obtain ⟨Ab,kb,kvs2,rfl,hob⟩ := hres
  have HF : Hid (fld o 67 l = .ok { o with chs := b }) := Lib.hid (by unfold fld;rw [if_neg (by decide),if_neg (by decide),if_neg (by decide),if_neg (by decide),if_pos rfl,ho1])
  obtain ⟨nb,hnb⟩ : ∃ nb,b.length = nb := ⟨_,rfl⟩
  have hap : ∀ (i : Nat) u g,kvs2[i]? = some u → u.ownBlock = some g → dv.ownBlock ≠ some g := fun i u g hu hg e => by
   obtain ⟨d,hd⟩ : ∃ d,b[i]? = some d := ⟨_,List.getElem?_eq_getElem (by rw [← hob.len];exact (List.getElem?_eq_some_iff.1 hu).1)⟩
   have h1 := ((hob.own i d u hd hu).lt g hg).1
   have h2 := (hO.data.lt g e).2
   omega
  have hO4 : OpO B { o with chs := b } dv (.slice Ab b.length kb) fv bv kvs2 w3 := ⟨hO3.data,hob.low hBw,hO3.fls,hO3.keep,hap⟩
  have hB4 := hB3.set 11 (.slice Ab b.length kb)
  have hO5 := hO4.set (j := 11) hB3 (.slice Ab b.length kb)
  have hX4 := hX3.set (j := 11) (.slice Ab b.length kb)
  rw [hnb] at hB4 hO5 hX4 ⊢
  clear ho1 hb3 hO hnb hob hO4 hap
  go_wp2
  go_ret
  exact ⟨{ o with chs := b },dv,.slice Ab nb kb,fv,bv,kvs2,hd,sl_slice _ _ _,hf,hbv,hB4,hX4,by rw [HF.out];exact ⟨rfl,rfl,hO5⟩⟩
set_option maxRecDepth 20000 in
set_option maxHeartbeats 1600000 in
theorem field_N (hE : Env w) (c : UInt8) (hcn : isNum c) (h1 : 0 < n) {dv cv fv bv : Value} {kvs : List Value} (hd : SlV dv) (hcv : SlV cv) (hf : SlV fv) (hbv : SlV bv) (hB : Blk R (opC o dv cv fv bv) 108 w) (hO : OpO B o dv cv fv bv kvs w) (hBw : B ≤ w.heap.size) (HN : Hid (l.length = n)) (hn : n ≤ 2000000) (hc : n ≤ cc) (hs : Shows strc w w.heap.size A l) (hw : ∀ x ∈ l,x.length ≤ 2000000):
  Calls Tryz.prog 80 #[.pointer (some ⟨R,0,none⟩),.int .i32 (c.toNat : Int),.slice A n cc] w fun e w' => FieldR R B o c l w e w' := by
 obtain ⟨y,r,rfl⟩ : ∃ y r,l = y :: r := by
  cases l with
  | nil => have := HN.out;simp at this;omega
  | cons y r => exact ⟨y,r,rfl⟩
 obtain ⟨bb,oo,rfl,hbb,hcell⟩ := hs (by simp)
 have cy := hcell 0 y rfl
 rw [Nat.add_zero] at cy
 unfold strc at cy
 have hyl := hw y (by simp)
 have hRl := hB.lt
 have i1 : (0 : Int) < (n : Int) := by omega
 clear hw hcell HN
 obtain ⟨o1,ho1⟩ : ∃ q,numW y = q := ⟨_,rfl⟩
 have HP := Lib.hid ho1
 clear ho1
 obtain ⟨x,hx⟩ : ∃ x : Int,(c.toNat : Int) = x := ⟨_,rfl⟩
 have x1 : (x == 72) = false ∧ (x == 83) = false ∧ (x == 66) = false ∧ (x == 70) = false ∧ (x == 67) = false := by
  rw [← hx]
  rcases hcn with rfl | rfl | rfl | rfl | rfl | rfl | rfl <;> decide
 obtain ⟨x1,x2,x3,x4,x5⟩ := x1
 have hpl := place_any R c hcn
 rw [hx] at hpl ⊢
 obtain ⟨j,hj⟩ : ∃ j,offN c = j := ⟨_,rfl⟩
 rw [hj] at hpl
 have hset := opC_set o dv cv fv bv c
 rw [hj] at hset
 have hjo : ∃ z : Int,(opC o dv cv fv bv)[j]? = some (.int .i64 z) := by
  rw [← hj]
  rcases hcn with rfl | rfl | rfl | rfl | rfl | rfl | rfl <;> exact ⟨_,rfl⟩
 obtain ⟨z,hz⟩ := hjo
 have ej := hB.cell hz
 have ef := hB.open_
 have hfl : ∀ (q : Option Nat),numW y = q → fld o c (y :: r) = match q with
   | some m => .ok (setN o c m)
   | none => .error 223 := by
  intro q hq
  unfold fld
  rw [List.headD_cons,hq]
  rcases hcn with rfl | rfl | rfl | rfl | rfl | rfl | rfl <;> rfl
 have hF := hfl _ HP.out
 have HF := Lib.hid hF
 have HSET := Lib.hid hset
 have hown : ∀ m : Int,OpO B (setN o c m) dv cv fv bv kvs w := fun m => by
  have e : (setN o c m).data = o.data ∧ (setN o c m).chs = o.chs ∧ (setN o c m).fls = o.fls ∧ (setN o c m).keep = o.keep := by
   unfold setN;repeat' split
   all_goals exact ⟨rfl,rfl,rfl,rfl⟩
  obtain ⟨a1,a2,a3,a4⟩ := e
  exact ⟨by rw [a1];exact hO.data,by rw [a2];exact hO.chs,by rw [a3];exact hO.fls,by rw [a4];exact hO.keep,hO.ap⟩
 clear hx hj hset hz hfl hF
 have hd0 : Below w.heap.size w w.drew := (Below.refl _ w).drew
 have hBd := hB.on hd0
 have ejd := keepc hd0 ej
 have efd := keepf hd0 hRl ef
 have cyd := keepc hd0 cy
 have hEd := hE.on hd0
 have hownd : ∀ m : Int,OpO B (setN o c m) dv cv fv bv kvs w.drew := fun m => (hown m).on hd0
 have hXd := Ex.of hd0 hRl
 have hRd := hBd.lt
 have hcall := number_as HP (by omega) _ hEd
 clear hd0 hB ej ef hE hown hO
 cases o1 with
 | none =>
  have hres : ofN none = .tuple #[.int .i64 0,.int .i64 223] := rfl
  rw [hres] at hcall
  clear hres
  go_enter Tryz.func80,Tryz.ntmps80
  go_upto_region 2 with fail
  go_region_law (first
   | (go_simp;go_at_call 167;refine (hpl _).mono ?_;rintro e w' ⟨rfl,rfl⟩)
   | (go_simp;go_at_call 77;refine hcall.mono ?_;rintro e w3 ⟨rfl,hb3⟩;have e3 := keepc hb3 ejd;have f3 := keepf hb3 hRd efd))
  all_goals
   have hB3 := hBd.on hb3
   have hX3 : Ex R w w3 := ⟨Nat.le_trans hXd.size hb3.size,fun g hg hn => (hb3.block g (Nat.lt_of_lt_of_le hg hXd.size)).trans (hXd.blk g hg hn),fun B' a hB' h => (hXd.bl B' a hB' h).trans (hb3.mono (by have := hBd.lt;omega))⟩
   have hO3 : ∀ m : Int,OpO B (setN o c m) dv cv fv bv kvs w3 := fun m => (hownd m).on hb3
   have hR3 := hB3.lt
   have hB4 := hB3.set j (.int .i64 0)
   rw [HSET.out] at hB4
   have hX4 := hX3.set (j := j) (.int .i64 0)
   clear hBd ejd efd cyd hEd hownd hXd hb3 e3 f3 hcall hpl
   go_wp2
   go_ret
   exact ⟨setN o c 0,dv,cv,fv,bv,kvs,hd,hcv,hf,hbv,hB4,hX4,by rw [HF.out];exact rfl⟩
 | some m =>
  have hres : ofN (some m) = .tuple #[.int .i64 (m : Int),.int .i64 0] := rfl
  rw [hres] at hcall
  clear hres
  go_enter Tryz.func80,Tryz.ntmps80
  go_upto_region 2 with fail
  go_region_law (first
   | (go_simp;go_at_call 167;refine (hpl _).mono ?_;rintro e w' ⟨rfl,rfl⟩)
   | (go_simp;go_at_call 77;refine hcall.mono ?_;rintro e w3 ⟨rfl,hb3⟩;have e3 := keepc hb3 ejd;have f3 := keepf hb3 hRd efd))
  all_goals
   have hB3 := hBd.on hb3
   have hX3 : Ex R w w3 := ⟨Nat.le_trans hXd.size hb3.size,fun g hg hn => (hb3.block g (Nat.lt_of_lt_of_le hg hXd.size)).trans (hXd.blk g hg hn),fun B' a hB' h => (hXd.bl B' a hB' h).trans (hb3.mono (by have := hBd.lt;omega))⟩
   have hO3 : ∀ m : Int,OpO B (setN o c m) dv cv fv bv kvs w3 := fun m => (hownd m).on hb3
   have hR3 := hB3.lt
   have hB4 := hB3.set j (.int .i64 (m : Int))
   rw [HSET.out] at hB4
   have hX4 := hX3.set (j := j) (.int .i64 (m : Int))
   clear hBd ejd efd cyd hEd hownd hXd hb3 e3 f3 hcall hpl
   have hO5 := (hO3 m).set (j := j) hB3 (.int .i64 (m : Int))
   clear hO3 hB3 hX3
   go_wp2
   go_ret
   exact ⟨setN o c m,dv,cv,fv,bv,kvs,hd,hcv,hf,hbv,hB4,hX4,by rw [HF.out];exact ⟨rfl,rfl,hO5⟩⟩
end Go.Proofs.YtpkmekdpmkfcdaaGreatDoor.Sr
namespace Go.Proofs.YtpkmekdpmkfcdaaGreatDoor.Sr
set_option linter.unusedVariables false
set_option linter.unusedSimpArgs false
open Go.RowKit Go.Proofs.YtpkmekdpmkfcdaaGreatDoor.Wd Go.Proofs.YtpkmekdpmkfcdaaGreatDoor.Px Go.Proofs.YtpkmekdpmkfcdaaGreatDoor.By Go.Proofs.YtpkmekdpmkfcdaaGreatDoor.En Go.Proofs.YtpkmekdpmkfcdaaGreatDoor.Pl Go.Proofs.YtpkmekdpmkfcdaaGreatDoor.Pf Go.Proofs.YtpkmekdpmkfcdaaGreatDoor.Sc
theorem last_at {f : List UInt8} {c : UInt8} (hf : f.getLast? = some c) : ∃ q,f.length = q + 1 ∧ f[q]? = some c := by
 rw [List.getLast?_eq_getElem?] at hf
 obtain ⟨h1,h2⟩ := List.getElem?_eq_some_iff.1 hf
 exact ⟨f.length - 1,by omega,hf⟩
theorem wanted_any (f : List UInt8) (c : UInt8) (hf : f.getLast? = some c) (hfl : f.length ≤ 1000) (n : Nat) (hn : n ≤ 2000000) (w : World) :
  Calls Tryz.prog 79 #[.string ⟨f.toArray⟩,.int .i64 (n : Int)] w fun e w' => e = .returned (.bool (want f n)) ∧ w' = w := by
 obtain ⟨q,hq,hqc⟩ := last_at hf
 obtain ⟨s,hs⟩ : ∃ s : ByteArray,s = ⟨f.toArray⟩ := ⟨_,rfl⟩
 have hsz : s.size = q + 1 := by rw [hs];exact hq
 have hlt : q < s.size := by omega
 have hsc : s[q]'hlt = c := str_at hs hqc hlt
 obtain ⟨x,hx⟩ : ∃ x : Int,((s[q]'hlt).toNat : Int) = x := ⟨_,rfl⟩
 have hxc : x = (c.toNat : Int) := by rw [← hx,hsc]
 obtain ⟨b,hb⟩ : ∃ b,want f n = b := ⟨_,rfl⟩
 have hw : want f n = if c = 67 then decide (1 ≤ n) else if c = 70 then decide (n % 2 = 1) else decide (n = q + 1) := by
  unfold want;rw [hf,hq];simp
 rw [hb] at hw ⊢
 rw [← hs]
 have i1 : ((q + 1 : Nat) : Int) - 1 = (q : Int) := by omega
 have i2 : (q : Int) < (s.size : Int) := by omega
 have hq1 : q ≤ 1000 := by omega
 have HB := Lib.hid hb
 by_cases h1 : c = 67
 ·have e1 : x = 67 := by rw [hxc,h1];rfl
  rw [if_pos h1] at hw
  have hb2 : decide ((1 : Int) ≤ (n : Int)) = b := by rw [hw];congr 1;exact propext ⟨fun h => by omega,fun h => by omega⟩
  have HW := Lib.hid hb2
  subst e1
  clear hs hsc hxc hqc hf hw h1 hb hb2
  go_enter Tryz.func79,Tryz.ntmps79
  go_wp2
  go_ret
  exact ⟨by rw [← HW.out];rfl,rfl⟩
 ·have e1 : (x == 67) = false := by
   rw [beq_eq_false_iff_ne,hxc];intro e;exact h1 (UInt8.toNat_inj.1 (by show _ = 67;omega))
  rw [if_neg h1] at hw
  by_cases h2 : c = 70
  ·have e2 : x = 70 := by rw [hxc,h2];rfl
   rw [if_pos h2] at hw
   obtain ⟨m,hm⟩ : ∃ m : Int,Int.tmod (n : Int) 2 = m := ⟨_,rfl⟩
   have hb2 : (m == 1) = b := by
    rw [hw,← hm,Int.tmod_eq_emod_of_nonneg (by omega)]
    by_cases h : n % 2 = 1
    ·rw [decide_eq_true h,beq_iff_eq];omega
    ·rw [decide_eq_false h,beq_eq_false_iff_ne];omega
   have HW := Lib.hid hb2
   subst e2
   clear hs hsc hxc hqc hf hw h1 h2 hb hb2
   go_enter Tryz.func79,Tryz.ntmps79
   go_wp2
   go_ret
   exact ⟨by rw [← HW.out];rfl,rfl⟩
  ·have e2 : (x == 70) = false := by
    rw [beq_eq_false_iff_ne,hxc];intro e;exact h2 (UInt8.toNat_inj.1 (by show _ = 70;omega))
   rw [if_neg h2] at hw
   have hb2 : ((n : Int) == ((q + 1 : Nat) : Int)) = b := by
    rw [hw]
    by_cases h : n = q + 1
    ·rw [decide_eq_true h,beq_iff_eq];omega
    ·rw [decide_eq_false h,beq_eq_false_iff_ne];omega
   have hb3 : ((n : Int) == (q : Int) + 1) = b := by rw [← hb2];congr 1
   have HW := Lib.hid hb3
   clear hs hsc hxc hqc hf hw h1 h2 hb hb2 hb3
   go_enter Tryz.func79,Tryz.ntmps79
   go_wp2
   go_ret
   exact ⟨by rw [← HW.out];rfl,rfl⟩
theorem want_need : ∀ K,1 ≤ K → K ≤ 14 → ∀ n,want (stepForm K) n = true → ∀ (pos : Nat) x,(stepForm K)[pos]? = some x → (x = 72 ∨ x = 83 ∨ x = 66 ∨ x = 70 ∨ x = 67 ∨ isNum x) ∧ pos ≤ n ∧ (x ≠ 70 → x ≠ 67 → pos < n) := by
 intro K h1 h2 n hw pos x hx
 have hc : K = 1 ∨ K = 2 ∨ K = 3 ∨ K = 4 ∨ K = 5 ∨ K = 6 ∨ K = 7 ∨ K = 8 ∨ K = 9 ∨ K = 10 ∨ K = 11 ∨ K = 12 ∨ K = 13 ∨ K = 14 := by omega
 have hp : pos = 0 ∨ pos = 1 ∨ pos = 2 := by
  have := (List.getElem?_eq_some_iff.1 hx).1
  have h3 : (stepForm K).length ≤ 3 := by rcases hc with rfl | rfl | rfl | rfl | rfl | rfl | rfl | rfl | rfl | rfl | rfl | rfl | rfl | rfl <;> decide
  omega
 rcases hc with rfl | rfl | rfl | rfl | rfl | rfl | rfl | rfl | rfl | rfl | rfl | rfl | rfl | rfl <;>
  (simp [want,stepForm] at hw hx
   rcases hp with rfl | rfl | rfl <;> (try (simp at hx)) <;> (try subst hx) <;> (try (refine ⟨?_,?_,?_⟩)) <;> (try unfold isNum) <;> (try decide) <;> (try omega) <;> (try (intro a b;exact absurd rfl b)) <;> (try (intro a;exact absurd rfl a)))
theorem stepForm_last : ∀ K,1 ≤ K → K ≤ 14 → ∃ c,(stepForm K).getLast? = some c := by
 intro K h1 h2
 have hc : K = 1 ∨ K = 2 ∨ K = 3 ∨ K = 4 ∨ K = 5 ∨ K = 6 ∨ K = 7 ∨ K = 8 ∨ K = 9 ∨ K = 10 ∨ K = 11 ∨ K = 12 ∨ K = 13 ∨ K = 14 := by omega
 rcases hc with rfl | rfl | rfl | rfl | rfl | rfl | rfl | rfl | rfl | rfl | rfl | rfl | rfl | rfl <;> exact ⟨_,rfl⟩
theorem stepForm_len : ∀ K,K ≤ 14 → (stepForm K).length ≤ 3 := by
 intro K h2
 have hc : K = 0 ∨ K = 1 ∨ K = 2 ∨ K = 3 ∨ K = 4 ∨ K = 5 ∨ K = 6 ∨ K = 7 ∨ K = 8 ∨ K = 9 ∨ K = 10 ∨ K = 11 ∨ K = 12 ∨ K = 13 ∨ K = 14 := by omega
 rcases hc with rfl | rfl | rfl | rfl | rfl | rfl | rfl | rfl | rfl | rfl | rfl | rfl | rfl | rfl | rfl <;> decide
theorem flds_at (o : Opp) {f : List UInt8} {ws : List (List UInt8)} {pos : Nat} {x : UInt8} (hx : f[pos]? = some x) :
  flds o (f.drop pos) (ws.drop pos) = match fld o x (ws.drop pos) with
   | .ok o' => flds o' (f.drop (pos + 1)) (ws.drop (pos + 1))
   | .error e => .error e := by
 obtain ⟨p1,rfl⟩ := List.getElem?_eq_some_iff.1 hx
 rw [List.drop_eq_getElem_cons p1,flds,List.tail_drop]
 cases fld o f[pos] (ws.drop pos) <;> rfl
/-! ### no error is 0 -/
theorem chgs_err {l : List (List UInt8)} {e : Int} (h : chgs l = .error e) : e ≠ 0 := by
 unfold chgs at h
 split at h
 ·cases h
 ·have key : ∀ (ls : List (List (List UInt8))),mapE chg ls = .error e → e ≠ 0 := by
   intro ls
   induction ls with
   | nil => intro h;rw [mapE] at h;cases h
   | cons a r ih =>
    intro h
    rw [mapE] at h
    cases e1 : chg a with
    | error x => rw [e1] at h;injection h with h;subst h;exact chg_err e1
    | ok b =>
     rw [e1] at h
     simp only at h
     cases e2 : mapE chg r with
     | error x => rw [e2] at h;injection h with h;subst h;exact ih e2
     | ok bs => rw [e2] at h;cases h
  exact key _ h
theorem flts_err (n : Nat) : ∀ (l : List (List UInt8)) (e : Int),l.length ≤ n → flts l = .error e → e ≠ 0 := by
 induction n with
 | zero =>
  intro l e hl h
  have : l = [] := List.eq_nil_of_length_eq_zero (by omega)
  subst this;rw [flts] at h
  ·cases h
  ·simp
 | succ n ih =>
  intro l e hl h
  match l,h with
  | [],h => simp [flts] at h
  | [_],h => simp [flts] at h
  | k :: m :: r,h =>
   rw [flts] at h
   split at h
   ·injection h with h;omega
   cases e1 : numW m with
   | none => rw [e1] at h;injection h with h;omega
   | some v =>
    rw [e1] at h
    simp only at h
    cases e2 : flts r with
    | error x => rw [e2] at h;injection h with h;subst h;exact ih r x (by simp at hl;omega) e2
    | ok l2 => rw [e2] at h;cases h
theorem fld_err {o : Opp} {c : UInt8} {l : List (List UInt8)} {e : Int} (h : fld o c l = .error e) : e ≠ 0 := by
 unfold fld at h
 split at h
 ·split at h
  ·cases h
  ·injection h with h;omega
 split at h
 ·split at h
  ·cases h
  ·injection h with h;omega
 split at h
 ·split at h
  ·cases h
  ·injection h with h;omega
 split at h
 ·cases e1 : flts l with
  | ok x => rw [e1] at h;cases h
  | error x => rw [e1] at h;injection h with h;subst h;exact flts_err _ l x (Nat.le_refl _) e1
 split at h
 ·cases e1 : chgs l with
  | ok x => rw [e1] at h;cases h
  | error x => rw [e1] at h;injection h with h;subst h;exact chgs_err e1
 split at h
 ·cases h
 ·injection h with h;omega
theorem flds_err (f : List UInt8) : ∀ (o : Opp) (ws : List (List UInt8)) (e : Int),flds o f ws = .error e → e ≠ 0 := by
 induction f with
 | nil => intro o ws e h;rw [flds] at h;cases h
 | cons x f ih =>
  intro o ws e h
  rw [flds] at h
  cases e1 : fld o x ws with
  | ok o' => rw [e1] at h;exact ih o' _ e h
  | error y => rw [e1] at h;injection h with h;subst h;exact fld_err e1
theorem stepS_err {l : List (List UInt8)} {e : Int} (h : stepS l = .error e) : e ≠ 0 := by
 cases l with
 | nil => injection h with h;omega
 | cons a r =>
  rw [stepS_cons] at h
  split at h
  ·injection h with h;omega
  split at h
  ·injection h with h;omega
  exact flds_err _ _ _ _ h
theorem named_step {g : Nat} {t : List UInt8} {K : Nat} (hK : Hid (named stepNames t = K)) (w : World) (hT : Tabs w) (hg : g = 1) :
  Calls Tryz.prog 78 #[.slice (some ⟨g,0,none⟩) 14 14,.string ⟨t.toArray⟩] w fun e w' => e = .returned (.int .i64 (K : Int)) ∧ Below w.heap.size w w' := by
 subst hg
 have := named_any 1 14 stepNames t w (Lib.hid rfl) (by omega) hT.ls (fun i x hx => ⟨(hT.st i x hx).1,_,(hT.st i x hx).2⟩)
 rwa [hK.out] at this
/-- fourteen cells written -/
def put14 (W : World) (R : Nat) (v0 v1 v2 v3 v4 v5 v6 v7 v8 v9 v10 v11 v12 v13 : Value) : World :=
 ((((((((((((((W.setCell ⟨R,0,none⟩ v0).setCell ⟨R,1,none⟩ v1).setCell ⟨R,2,none⟩ v2).setCell ⟨R,3,none⟩ v3).setCell ⟨R,4,none⟩ v4).setCell ⟨R,5,none⟩ v5).setCell ⟨R,6,none⟩ v6).setCell ⟨R,7,none⟩ v7).setCell ⟨R,8,none⟩ v8).setCell ⟨R,9,none⟩ v9).setCell ⟨R,10,none⟩ v10).setCell ⟨R,11,none⟩ v11).setCell ⟨R,12,none⟩ v12).setCell ⟨R,13,none⟩ v13)
theorem set14 (a : Array Value) (ha : a.size = 14) (v0 v1 v2 v3 v4 v5 v6 v7 v8 v9 v10 v11 v12 v13 : Value) :
  (((((((((((((a.setIfInBounds 0 v0).setIfInBounds 1 v1).setIfInBounds 2 v2).setIfInBounds 3 v3).setIfInBounds 4 v4).setIfInBounds 5 v5).setIfInBounds 6 v6).setIfInBounds 7 v7).setIfInBounds 8 v8).setIfInBounds 9 v9).setIfInBounds 10 v10).setIfInBounds 11 v11).setIfInBounds 12 v12).setIfInBounds 13 v13 = #[v0,v1,v2,v3,v4,v5,v6,v7,v8,v9,v10,v11,v12,v13] := by
 obtain ⟨l⟩ := a
 simp only [List.size_toArray] at ha
 match l,ha with
 | [_,_,_,_,_,_,_,_,_,_,_,_,_,_],_ => simp
theorem put14_blk {W : World} {R : Nat} {t : TypeId} {a : Array Value} (h : Blk R a t W) (ha : a.size = 14) (v0 v1 v2 v3 v4 v5 v6 v7 v8 v9 v10 v11 v12 v13 : Value) :
  Blk R #[v0,v1,v2,v3,v4,v5,v6,v7,v8,v9,v10,v11,v12,v13] t (put14 W R v0 v1 v2 v3 v4 v5 v6 v7 v8 v9 v10 v11 v12 v13) := by
 have := (((((((((((((h.set 0 v0).set 1 v1).set 2 v2).set 3 v3).set 4 v4).set 5 v5).set 6 v6).set 7 v7).set 8 v8).set 9 v9).set 10 v10).set 11 v11).set 12 v12).set 13 v13
 rw [set14 a ha] at this
 exact this
theorem put14_other (W : World) {R g : Nat} (hg : g ≠ R) (v0 v1 v2 v3 v4 v5 v6 v7 v8 v9 v10 v11 v12 v13 : Value) : (put14 W R v0 v1 v2 v3 v4 v5 v6 v7 v8 v9 v10 v11 v12 v13).heap[g]? = W.heap[g]? := by
 have h : ∀ (W : World) (j : Nat) (v : Value),(W.setCell ⟨R,j,none⟩ v).heap[g]? = W.heap[g]? := fun W j v => Below.heap_setCell W ⟨R,j,none⟩ v g hg
 unfold put14
 rw [h,h,h,h,h,h,h,h,h,h,h,h,h,h]
theorem put14_below {B : Nat} {a W : World} {R : Nat} (h : Below B a W) (hR : B ≤ R) (v0 v1 v2 v3 v4 v5 v6 v7 v8 v9 v10 v11 v12 v13 : Value) : Below B a (put14 W R v0 v1 v2 v3 v4 v5 v6 v7 v8 v9 v10 v11 v12 v13) :=
 (((((((((((((h.setCell hR _).setCell hR _).setCell hR _).setCell hR _).setCell hR _).setCell hR _).setCell hR _).setCell hR _).setCell hR _).setCell hR _).setCell hR _).setCell hR _).setCell hR _).setCell hR _
end Go.Proofs.YtpkmekdpmkfcdaaGreatDoor.Sr
