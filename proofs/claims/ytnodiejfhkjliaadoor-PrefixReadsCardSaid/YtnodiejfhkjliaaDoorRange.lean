/- A range over a function whose iterator keeps its state in one cell of its own: what the caller owes. Over any program. -/
import Derived.Test.YtnodiejfhkjliaaDoorWords
import Derived.RangeFuncFrom
import Derived.RangeFuncLeaves
namespace Go.Proofs.YtnodiejfhkjliaaDoor.Wd
open Go.RowKit

/-- the caller's word does not mind what the iterator writes into its cell -/
def Minds {β : Type} (St : Nat) (J : β → World → Prop) : Prop := ∀ s W v, J s W → J s (W.setCell ⟨St, 0, none⟩ v)

/-- an iterator that hands out the list xs, one value a round (enc: the round's number and the value), and writes one cell alone; Kp: what a round that goes on keeps for it -/
def Iter {α : Type} (F : Fence) (n : Nat) (P : Program) (g : Nat) (lb : Array Value) (enc : Nat → α → Array Value) (Kp : World → World → Prop) (St : Nat) (xs : List α) (w : World) : Prop :=
  ∀ (l : Nat) (J Jx : List α → World → Prop) (W : World), Below w.heap.size w W → Minds St J → Minds St Jx →
    (∀ pre x W1, J pre W1 → pre ++ [x] <+: xs → YieldAt F (n - 1) P l (enc pre.length x) W1 fun e W' =>
      (e = .returned (.bool true) ∧ J (pre ++ [x]) W' ∧ Kp W1 W') ∨ (e = .returned (.bool false) ∧ Jx (pre ++ [x]) W')) →
    J [] W →
    CallsIn F n P g (#[.func (.yield l) #[] #[]] ++ lb) W fun e W' => (∃ v, e = .returned v) ∧ (J xs W' ∨ ∃ pre, pre <+: xs ∧ Jx pre W')

variable {F : Fence} {n : Nat} {P : Program}

theorem setCell_obj {W : World} {St k : Nat} {v : Value} (h : k ≠ St) : (W.setCell ⟨St, 0, none⟩ v).heap[k]? = W.heap[k]? := Below.heap_setCell W ⟨St, 0, none⟩ v k h

theorem range_iter {α : Type} {g : Operand} {ps : Array Tmp} {assign body : Code} {Q : Exit → Act → World → Prop} {a : Act} {w : World}
    (hro : F.round = none) (h1 : 1 ≤ n) {gf : Nat} {lb : Array Value} (hg : a.eval g = .func (.func gf) #[] lb) (hFg : F.fn gf) (eg : ∀ args w, (callFunc gf args).run P w = .ok (.enter gf args) w)
    {enc : Nat → α → Array Value} {Kp : World → World → Prop} {St : Nat} {xs : List α} (hseq : Iter F (n - 1) P gf lb enc Kp St xs w) (hSt : St < w.heap.size)
    (hKt : ∀ {A B C : World}, Kp A B → Kp B C → Kp A C) (hKb : ∀ (W : World) (l : Nat) (o' : Obj), w.heap.size ≤ l → Kp W (W.putObj l o')) (hps : ∀ k x, (enc k x).size = ps.size)
    (I : List α → World → Prop) (Ix : Code → List α → World → Prop) (hI : OwnFrom w.heap.size I) (hIx : ∀ c, OwnFrom w.heap.size (Ix c)) (hM : Minds St I) (hMx : ∀ c, Minds St (Ix c)) (h0 : I [] w)
    (a1 : Nat → α → Act)
    (hassign : ∀ (l k : Nat) (x : α) (W : World) (K : Act → World → Prop), K (a1 k x) W →
      assign.wpIn (F.inRound l) (n - 1 - 1) P (Exit.then K (fun _ _ _ => False)) { tmps := (ps.zip (enc k x)).foldl (fun t (p, v) => t.setIfInBounds p v) a.tmps, defers := [] } W)
    (hbody : ∀ (l : Nat) (pre : List α) (x : α) (W : World), I pre W → pre ++ [x] <+: xs → body.wpIn (F.inRound l) (n - 1 - 1) P (ownPostK Kp I Ix (pre ++ [x]) W) (a1 pre.length x) W)
    (hdone : ∀ (D : Nat) (W : World), w.heap.size ≤ D → I xs W → W.heap[D]? = some (.deferred (some [])) → Q .normal { a with defers := { target := .collected D, args := #[] } :: a.defers } W)
    (hstop : ∀ (D : Nat) (c : Code) (pre : List α) (W : World), w.heap.size ≤ D → pre <+: xs → Ix c pre W → W.heap[D]? = some (.deferred (some [])) → c.wpIn F n P Q { a with defers := { target := .collected D, args := #[] } :: a.defers } W) :
    (Code.rangeFunc g ps assign body).wpIn F n P Q a w := by
  refine wpIn_rangeFunc fun fn hfn => ?_
  rw [hro]
  -- the two blocks of the loop: the calls that its rounds put off, and its record
  generalize hm : w.heap.size = m at *
  let rec0 : LoopState → Option Code → Loop := fun st pe => { state := st, pending := pe, fn, tmps := a.tmps, params := ps, assign, body, defers := m }
  obtain ⟨W1, hW1⟩ : ∃ W1, (w.alloc (.deferred (some []))).alloc (.loop (rec0 .ready none)) = W1 := ⟨_, rfl⟩
  have hL1 : W1.heap[m + 1]? = some (.loop (rec0 .ready none)) := by
    have := World.alloc_heap_new (w.alloc (.deferred (some []))) (.loop (rec0 .ready none))
    rw [World.size_alloc, hm] at this
    rw [← hW1]; exact this
  have hK1 : W1.heap[m]? = some (.deferred (some [])) := by
    rw [← hW1, ← hm]
    exact (Below.heap_alloc _ _ _ (by simp)).trans (World.alloc_heap_new w _)
  have hI1 : I [] W1 := by rw [← hW1]; exact hI.alloc _ (hI.alloc _ h0)
  have hb1 : Below m w W1 := by
    rw [← hW1]
    exact ((Below.refl _ w).alloc (by omega) _).alloc (by simp; omega) _
  refine ⟨m + 1, [{ target := .collected m, args := #[] }], W1, { target := .fn (.func gf) lb, args := #[.func (.yield (m + 1)) #[] #[]] }, W1, gf,
    #[.func (.yield (m + 1)) #[] #[]] ++ lb, W1, ?_, ?_, ?_, ?_, fun _ => h1, ?_⟩
  · rw [← hW1]
    subst hm
    exact run_enterLoop_outer _ _ _ _ _
  · simp only [resolve, hg]
    simp [go_sem]
  · intro f' hf'
    simp [Target.leads] at hf'
    subst hf'
    exact hFg
  · simp [invoke, go_sem, eg]
  · refine (hseq (m + 1)
      (fun pre W => I pre W ∧ W.heap[m + 1]? = some (.loop (rec0 .ready none)) ∧ W.heap[m]? = some (.deferred (some [])))
      (fun pre W => ∃ c, Ix c pre W ∧ W.heap[m + 1]? = some (.loop (rec0 .done (some c))) ∧ W.heap[m]? = some (.deferred (some [])))
      W1 (by rw [hm]; exact hb1)
      (fun s W v h => ⟨hM s W v h.1, (setCell_obj (by omega)).trans h.2.1, (setCell_obj (by omega)).trans h.2.2⟩)
      (fun s W v h => by
        obtain ⟨c, hc, hl, hk⟩ := h
        exact ⟨c, hMx c s W v hc, (setCell_obj (by omega)).trans hl, (setCell_obj (by omega)).trans hk⟩)
      ?_ ⟨hI1, hL1, hK1⟩).mono ?_
    · rintro pre x W ⟨hi, hl, hk⟩ hpre
      have hlt : m + 1 < W.heap.size := (Array.getElem?_eq_some_iff.1 hl).1
      refine ⟨fn, _, assign, body, run_yield (P := P) (args := enc pre.length x) hl (hps _ x), roundIn_of_wpIn hfn (hassign _ _ x W _ ⟨_, run_beginRound hl rfl, ?_⟩)⟩
      obtain ⟨V, hV⟩ : ∃ V, W.putObj (m + 1) (.loop { rec0 .ready none with state := .busy }) = V := ⟨_, rfl⟩
      have hlV : V.heap[m + 1]? = some (.loop { rec0 .ready none with state := .busy }) := by rw [← hV]; exact World.putObj_heap_same hlt
      have hkV : V.heap[m]? = some (.deferred (some [])) := by rw [← hV]; exact (World.putObj_heap_other (by omega)).trans hk
      have hKV : Kp W V := by rw [← hV]; exact hKb _ _ _ (by omega)
      have hiV : I pre V := by rw [← hV]; exact hI.putObj _ hi (by omega) hl rfl
      show body.wpIn (F.inRound (m + 1)) (n - 1 - 1) P _ _ (W.putObj (m + 1) (.loop { rec0 .ready none with state := .busy }))
      rw [hV]
      refine wpIn_mono (hbody _ pre x V hiV hpre) ?_
      have fin : ∀ (jump : Option Code) (W3 : World), KeepsOthers V W3 →
          (Instr.endRound (m + 1) jump).run P W3 = .ok (.bool jump.isNone) (W3.putObj (m + 1) (.loop (rec0 (if jump.isNone then .ready else .done) jump))) ∧
          W3.heap[m + 1]? = some (.loop { rec0 .ready none with state := .busy }) ∧
          (W3.putObj (m + 1) (.loop (rec0 (if jump.isNone then .ready else .done) jump))).heap[m + 1]? = some (.loop (rec0 (if jump.isNone then .ready else .done) jump)) ∧
          (W3.putObj (m + 1) (.loop (rec0 (if jump.isNone then .ready else .done) jump))).heap[m]? = some (.deferred (some [])) := fun jump W3 hk3 => by
        have hl3 := hk3.same _ _ hlV rfl
        exact ⟨run_endRound (P := P) jump hl3, hl3, World.putObj_heap_same (Array.getElem?_eq_some_iff.1 hl3).1, (World.putObj_heap_other (by omega)).trans (hk3.same _ _ hkV rfl)⟩
      rintro e a3 W3 hp
      cases e with
      | normal =>
        obtain ⟨hk3, hkp3, hi3⟩ := hp
        obtain ⟨hr, hl3, hl4, hk4⟩ := fin none W3 hk3
        exact ⟨_, _, hr, .inl ⟨rfl, ⟨hI.putObj _ hi3 (by omega) hl3 rfl, hl4, hk4⟩, hKt (hKt hKV hkp3) (hKb _ _ _ (by omega))⟩⟩
      | ret =>
        obtain ⟨hk3, hi3⟩ := hp
        obtain ⟨hr, hl3, hl4, hk4⟩ := fin (some .ret) W3 hk3
        exact ⟨_, _, hr, .inr ⟨rfl, .ret, (hIx _).putObj _ hi3 (by omega) hl3 rfl, hl4, hk4⟩⟩
      | exit id =>
        obtain ⟨hk3, hi3⟩ := hp
        obtain ⟨hr, hl3, hl4, hk4⟩ := fin (some (.exit id)) W3 hk3
        exact ⟨_, _, hr, .inr ⟨rfl, .exit id, (hIx _).putObj _ hi3 (by omega) hl3 rfl, hl4, hk4⟩⟩
      | goto t =>
        obtain ⟨hk3, hi3⟩ := hp
        obtain ⟨hr, hl3, hl4, hk4⟩ := fin (some (.goto t)) W3 hk3
        exact ⟨_, _, hr, .inr ⟨rfl, .goto t, (hIx _).putObj _ hi3 (by omega) hl3 rfl, hl4, hk4⟩⟩
      | panic ch => exact hp.elim
      | outgrown => exact hp.elim
    · rintro e W2 ⟨⟨v, rfl⟩, (⟨hi, hl, hk⟩ | ⟨pre, hpre, c, hi, hl, hk⟩)⟩
      · exact ⟨none, _, run_endLoop (P := P) hl (by simp [rec0]), hdone m _ (by omega) (hI.putObj _ hi (by omega) hl rfl) ((World.putObj_heap_other (by omega)).trans hk)⟩
      · exact ⟨some c, _, run_endLoop (P := P) hl (by simp [rec0]), hstop m c pre _ (by omega) hpre ((hIx c).putObj _ hi (by omega) hl rfl) ((World.putObj_heap_other (by omega)).trans hk)⟩

end Go.Proofs.YtnodiejfhkjliaaDoor.Wd
