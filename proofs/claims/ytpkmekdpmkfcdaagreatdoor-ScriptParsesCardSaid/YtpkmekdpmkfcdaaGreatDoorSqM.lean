/- Contracts of the reference: the names and the letters of the steps; the words of a step. For the contract of the reference's step: what its callees answer, its letters. -/
import Derived.Test.YtpkmekdpmkfcdaaGreatDoorSqL
namespace Go.Proofs.YtpkmekdpmkfcdaaGreatDoor.Sr
set_option linter.unusedVariables false
set_option linter.unusedSimpArgs false
open Go.RowKit Go.Proofs.YtpkmekdpmkfcdaaGreatDoor.Wd Go.Proofs.YtpkmekdpmkfcdaaGreatDoor.Px Go.Proofs.YtpkmekdpmkfcdaaGreatDoor.By Go.Proofs.YtpkmekdpmkfcdaaGreatDoor.En Go.Proofs.YtpkmekdpmkfcdaaGreatDoor.Pl Go.Proofs.YtpkmekdpmkfcdaaGreatDoor.Sc
open Go.Proofs.YtpkmekdpmkfcdaaGreatDoor.Pf (Cut strc one)

/-- the letters as the reference writes them -/
def lowS (c : UInt8) : UInt8 := if c = 67 then 99 else if c = 72 then 68 else if c = 70 then 102 else c
def stepFormR (k : Nat) : List UInt8 := (stepForm k).map lowS
theorem rnames_any (w : World) : Calls Tryz.prog 140 #[] w fun e w' => (∃ A, e = .returned (.slice A 15 15) ∧ Shows strc w' w'.heap.size A ([] :: stepNames)) ∧ Below w.heap.size w w' := by
  go_enter Tryz.func140, Tryz.ntmps140
  go_wp2
  go_ret
  exact ⟨⟨_, rfl, shows_new _ _ _ _ rfl⟩, one w _⟩
set_option maxHeartbeats 1600000 in
theorem rform_as {K : Nat} (h1 : 1 ≤ K) (h5 : K ≤ 14) (w : World) : Calls Tryz.prog 141 #[.int .i64 (K : Int)] w fun e w' => e = .returned (.string ⟨(stepFormR K).toArray⟩) ∧ Below w.heap.size w w' := by
  have : K = 1 ∨ K = 2 ∨ K = 3 ∨ K = 4 ∨ K = 5 ∨ K = 6 ∨ K = 7 ∨ K = 8 ∨ K = 9 ∨ K = 10 ∨ K = 11 ∨ K = 12 ∨ K = 13 ∨ K = 14 := by omega
  rcases this with rfl | rfl | rfl | rfl | rfl | rfl | rfl | rfl | rfl | rfl | rfl | rfl | rfl | rfl
  all_goals
    go_enter Tryz.func141, Tryz.ntmps141
    go_wp2
    go_ret
    exact ⟨rfl, one w _⟩
/-- the result is stored and read at the end -/
theorem close_rstep {W : World} {R : Nat} {a : Array Value} {t : TypeId} (h : Blk R a t W) (ha : a.size = 14) {tmps : Array Value} {Qp : Ending → World → Prop} {v0 v1 v2 v3 v4 v5 v6 v7 v8 v9 v10 v11 v12 v13 : Value}
    (x : Int) (h2 : (tmps[2]?).getD undef = .pointer (some ⟨R, 0, none⟩)) (h3 : (tmps[3]?).getD undef = .int .i64 x)
    (hQ : ∀ W8 : World, (∀ B a, B ≤ R → Below B a W → Below B a W8) → (∀ g, g ≠ R → W8.heap[g]? = W.heap[g]?) → Qp (.returned (.tuple #[.agg #[v0, v1, v2, v3, v4, v5, v6, v7, v8, v9, v10, v11, v12, v13], .int .i64 x])) W8) :
    bodyPost Tryz.prog Tryz.f53 Qp .ret { tmps := tmps, defers := [] } (put14 W R v0 v1 v2 v3 v4 v5 v6 v7 v8 v9 v10 v11 v12 v13) := by
  have h8 := put14_blk h ha v0 v1 v2 v3 v4 v5 v6 v7 v8 v9 v10 v11 v12 v13
  have hQ' := hQ _ (fun B a hB hb => put14_below hb hB v0 v1 v2 v3 v4 v5 v6 v7 v8 v9 v10 v11 v12 v13) (fun g hg => put14_other W hg v0 v1 v2 v3 v4 v5 v6 v7 v8 v9 v10 v11 v12 v13)
  clear hQ h
  generalize put14 W R v0 v1 v2 v3 v4 v5 v6 v7 v8 v9 v10 v11 v12 v13 = W8 at h8 hQ' ⊢
  have e0 : W8.cell? ⟨R, 0, none⟩ = some v0 := h8.cell rfl
  have e1 : W8.cell? ⟨R, 1, none⟩ = some v1 := h8.cell rfl
  have e2 : W8.cell? ⟨R, 2, none⟩ = some v2 := h8.cell rfl
  have e3 : W8.cell? ⟨R, 3, none⟩ = some v3 := h8.cell rfl
  have e4 : W8.cell? ⟨R, 4, none⟩ = some v4 := h8.cell rfl
  have e5 : W8.cell? ⟨R, 5, none⟩ = some v5 := h8.cell rfl
  have e6 : W8.cell? ⟨R, 6, none⟩ = some v6 := h8.cell rfl
  have e7 : W8.cell? ⟨R, 7, none⟩ = some v7 := h8.cell rfl
  have e8 : W8.cell? ⟨R, 8, none⟩ = some v8 := h8.cell rfl
  have e9 : W8.cell? ⟨R, 9, none⟩ = some v9 := h8.cell rfl
  have e10 : W8.cell? ⟨R, 10, none⟩ = some v10 := h8.cell rfl
  have e11 : W8.cell? ⟨R, 11, none⟩ = some v11 := h8.cell rfl
  have e12 : W8.cell? ⟨R, 12, none⟩ = some v12 := h8.cell rfl
  have e13 : W8.cell? ⟨R, 13, none⟩ = some v13 := h8.cell rfl
  clear h8
  exact bodyPost_ret (v := .tuple #[.agg #[v0, v1, v2, v3, v4, v5, v6, v7, v8, v9, v10, v11, v12, v13], .int .i64 x]) (by simp [results, Tryz.results53, go_sem, *]) rfl hQ'
theorem form_facts {K : Nat} (h1 : 1 ≤ K) (h5 : K ≤ 14) : ∃ (q : Nat) (fc : UInt8), (stepForm K).length = q + 1 ∧ q ≤ 2 ∧ (stepForm K)[q]? = some fc ∧ (stepForm K).getLast? = some fc ∧ (((K : Int) == 10) = decide (fc = 70)) ∧ (∀ (pos : Nat) x, (stepForm K)[pos]? = some x → (x = 67 ∨ x = 70) → pos = 1) := by
  have : K = 1 ∨ K = 2 ∨ K = 3 ∨ K = 4 ∨ K = 5 ∨ K = 6 ∨ K = 7 ∨ K = 8 ∨ K = 9 ∨ K = 10 ∨ K = 11 ∨ K = 12 ∨ K = 13 ∨ K = 14 := by omega
  have key : ∀ K, (K = 1 ∨ K = 2 ∨ K = 3 ∨ K = 4 ∨ K = 5 ∨ K = 6 ∨ K = 7 ∨ K = 8 ∨ K = 9 ∨ K = 10 ∨ K = 11 ∨ K = 12 ∨ K = 13 ∨ K = 14) → ∀ (pos : Nat) x, (stepForm K)[pos]? = some x → (x = 67 ∨ x = 70) → pos = 1 := by
    intro K hK pos x hx hc
    have hl := (List.getElem?_eq_some_iff.1 hx).1
    have hp : pos = 0 ∨ pos = 1 ∨ pos = 2 := by
      have h3 := stepForm_len K (by omega)
      omega
    rcases hK with rfl | rfl | rfl | rfl | rfl | rfl | rfl | rfl | rfl | rfl | rfl | rfl | rfl | rfl <;> rcases hp with rfl | rfl | rfl <;> first | rfl | (exfalso; simp [stepForm] at hx; try (subst hx; revert hc; decide))
  have k := key K this
  rcases this with rfl | rfl | rfl | rfl | rfl | rfl | rfl | rfl | rfl | rfl | rfl | rfl | rfl | rfl
  all_goals first
    | exact ⟨0, _, rfl, by decide, rfl, rfl, by decide, k⟩
    | exact ⟨1, _, rfl, by decide, rfl, rfl, by decide, k⟩
    | exact ⟨2, _, rfl, by decide, rfl, rfl, by decide, k⟩
end Go.Proofs.YtpkmekdpmkfcdaaGreatDoor.Sr

namespace Go.Proofs.YtpkmekdpmkfcdaaGreatDoor.Sr
set_option linter.unusedVariables false
set_option linter.unusedSimpArgs false
open Go.RowKit Go.Proofs.YtpkmekdpmkfcdaaGreatDoor.Wd Go.Proofs.YtpkmekdpmkfcdaaGreatDoor.Px Go.Proofs.YtpkmekdpmkfcdaaGreatDoor.By Go.Proofs.YtpkmekdpmkfcdaaGreatDoor.En Go.Proofs.YtpkmekdpmkfcdaaGreatDoor.Pl Go.Proofs.YtpkmekdpmkfcdaaGreatDoor.Sc
open Go.Proofs.YtpkmekdpmkfcdaaGreatDoor.Pf (Cut strc one)

theorem rfaults_as {l : List (List UInt8)} {n : Nat} (hn : Hid (l.length = n)) {r : Except Int (List (Int × Int))} (hr : Hid (flts l = r)) (A : Option Addr) (c : Nat) (w : World) (hl : n ≤ 2000000) (hc : n ≤ c) (hs : Shows strc w w.heap.size A l) (hw : ∀ x ∈ l, x.length ≤ 2000000) :
    Calls Tryz.prog 142 #[.slice A n c] w fun e w' => FaultsR r w e w' ∧ Below w.heap.size w w' := by
  have hn := hn.out
  subst hn
  have := rfaults_any l A c w hl hc hs hw
  rwa [hr.out] at this
theorem rfill_any (x : UInt8) {z : Int} (hz : Hid (((lowS x).toNat : Int) = z)) (hx : x = 72 ∨ x = 83 ∨ x = 66 ∨ isNum x) (B : Nat) (o : Opp) (Ad Ac Af Ab : Option Addr) (nd nc nf nb cd cc cf cb : Nat) (kvs : List Value) (y : List UInt8) (r : List (List UInt8)) (w : World)
    (hO : OpO B o (.slice Ad nd cd) (.slice Ac nc cc) (.slice Af nf cf) (.slice Ab nb cb) kvs w) (hBw : B ≤ w.heap.size) (hy : y.length ≤ 2000000) :
    Calls Tryz.prog 143 #[.agg (opC o (.slice Ad nd cd) (.slice Ac nc cc) (.slice Af nf cf) (.slice Ab nb cb)), .int .u8 z, .string ⟨y.toArray⟩] w fun e w' => FillR B (.slice Ac nc cc) (.slice Af nf cf) kvs (fld o x (y :: r)) e w' ∧ Below w.heap.size w w' := by
  rw [← hz.out]
  rcases hx with rfl | rfl | rfl | rfl | rfl | rfl | rfl | rfl | rfl | rfl
  · exact rfill_D B o Ad Ac Af Ab nd nc nf nb cd cc cf cb kvs y r w hO hBw hy
  · exact rfill_S B o Ad Ac Af Ab nd nc nf nb cd cc cf cb kvs y r w hO hBw hy
  · exact rfill_B B o Ad Ac Af Ab nd nc nf nb cd cc cf cb kvs y r w hO hBw hy
  · exact rfill_A B o Ad Ac Af Ab nd nc nf nb cd cc cf cb kvs y r w hO hBw hy
  · exact rfill_K B o Ad Ac Af Ab nd nc nf nb cd cc cf cb kvs y r w hO hBw hy
  · exact rfill_L B o Ad Ac Af Ab nd nc nf nb cd cc cf cb kvs y r w hO hBw hy
  · exact rfill_T B o Ad Ac Af Ab nd nc nf nb cd cc cf cb kvs y r w hO hBw hy
  · exact rfill_X B o Ad Ac Af Ab nd nc nf nb cd cc cf cb kvs y r w hO hBw hy
  · exact rfill_b B o Ad Ac Af Ab nd nc nf nb cd cc cf cb kvs y r w hO hBw hy
  · exact rfill_w B o Ad Ac Af Ab nd nc nf nb cd cc cf cb kvs y r w hO hBw hy
theorem FillR.sl {B : Nat} {cv fv : Value} {kvs : List Value} {x : Int} {e : Ending} {w' : World} (h : FillR B cv fv kvs (.error x) e w') : ∃ o' Ad nd cd Ab nb cb, e = .returned (.tuple #[.agg (opC o' (.slice Ad nd cd) cv fv (.slice Ab nb cb)), .int .i64 x]) := by
  obtain ⟨o', dv, bv, ⟨Ad, nd, cd, rfl⟩, ⟨Ab, nb, cb, rfl⟩, h⟩ := h
  exact ⟨o', Ad, nd, cd, Ab, nb, cb, h⟩
theorem FillR.sl2 {B : Nat} {cv fv : Value} {kvs : List Value} {o : Opp} {e : Ending} {w' : World} (h : FillR B cv fv kvs (.ok o) e w') : ∃ Ad nd cd Ab nb cb, e = .returned (.tuple #[.agg (opC o (.slice Ad nd cd) cv fv (.slice Ab nb cb)), .int .i64 0]) ∧ OpO B o (.slice Ad nd cd) cv fv (.slice Ab nb cb) kvs w' := by
  obtain ⟨o', dv, bv, ⟨Ad, nd, cd, rfl⟩, ⟨Ab, nb, cb, rfl⟩, rfl, h1, h2⟩ := h
  exact ⟨Ad, nd, cd, Ab, nb, cb, h1, h2⟩

def exM {α : Type} (r : Except Int α) (g : α → Opp) : Except Int Opp := match r with
  | .ok l => .ok (g l)
  | .error e => .error e
theorem fld_67 (o : Opp) (ws : List (List UInt8)) : fld o 67 ws = exM (chgs ws) (fun l => { o with chs := l }) := by
  unfold fld exM
  rw [if_neg (by decide), if_neg (by decide), if_neg (by decide), if_neg (by decide), if_pos rfl]
  cases chgs ws <;> rfl
theorem fld_70 (o : Opp) (ws : List (List UInt8)) : fld o 70 ws = exM (flts ws) (fun l => { o with fls := l }) := by
  unfold fld exM
  rw [if_neg (by decide), if_neg (by decide), if_neg (by decide), if_pos rfl]
  cases flts ws <;> rfl
theorem form_mem {K : Nat} (h5 : K ≤ 14) : ∀ x ∈ stepForm K, x ≠ 99 ∧ x ≠ 102 := by
  have : K = 0 ∨ K = 1 ∨ K = 2 ∨ K = 3 ∨ K = 4 ∨ K = 5 ∨ K = 6 ∨ K = 7 ∨ K = 8 ∨ K = 9 ∨ K = 10 ∨ K = 11 ∨ K = 12 ∨ K = 13 ∨ K = 14 := by omega
  rcases this with rfl | rfl | rfl | rfl | rfl | rfl | rfl | rfl | rfl | rfl | rfl | rfl | rfl | rfl | rfl <;> decide
theorem form_no {K : Nat} (h5 : K ≤ 14) : ∀ x ∈ stepForm K, (x = 67 → K = 1) ∧ (x = 70 → K = 10) := by
  have : K = 0 ∨ K = 1 ∨ K = 2 ∨ K = 3 ∨ K = 4 ∨ K = 5 ∨ K = 6 ∨ K = 7 ∨ K = 8 ∨ K = 9 ∨ K = 10 ∨ K = 11 ∨ K = 12 ∨ K = 13 ∨ K = 14 := by omega
  rcases this with rfl | rfl | rfl | rfl | rfl | rfl | rfl | rfl | rfl | rfl | rfl | rfl | rfl | rfl | rfl <;> decide
theorem FillR.uni {B : Nat} {cv fv : Value} {kvs : List Value} {r : Except Int Opp} {e : Ending} {w' : World} (h : FillR B cv fv kvs r e w') (h0 : ∀ x, r = .error x → x ≠ 0) : ∃ o' Ad nd cd Ab nb cb x, e = .returned (.tuple #[.agg (opC o' (.slice Ad nd cd) cv fv (.slice Ab nb cb)), .int .i64 x]) ∧ ((x = 0 ∧ r = .ok o' ∧ OpO B o' (.slice Ad nd cd) cv fv (.slice Ab nb cb) kvs w') ∨ (x ≠ 0 ∧ r = .error x)) := by
  cases r with
  | error x =>
    obtain ⟨o', Ad, nd, cd, Ab, nb, cb, h1⟩ := h.sl
    exact ⟨o', Ad, nd, cd, Ab, nb, cb, x, h1, .inr ⟨h0 x rfl, rfl⟩⟩
  | ok o =>
    obtain ⟨Ad, nd, cd, Ab, nb, cb, h1, h2⟩ := h.sl2
    exact ⟨o, Ad, nd, cd, Ab, nb, cb, 0, h1, .inl ⟨rfl, rfl, h2⟩⟩
end Go.Proofs.YtpkmekdpmkfcdaaGreatDoor.Sr
