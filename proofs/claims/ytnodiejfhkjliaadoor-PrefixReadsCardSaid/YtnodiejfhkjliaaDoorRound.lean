/- A drawn region in a round of a range over a function, by the words of the plain walk. Over any program. -/
import Derived.Test.YtnodiejfhkjliaaDoorAfter
import Derived.RangeFuncCalls
import Derived.OrdersIn
import Derived.StillTailTactics
namespace Go.Proofs.YtnodiejfhkjliaaDoor.Wd
open Go.RowKit

variable {P : Program} {md : Region.Mode} {ops : Array Oper} {Q : Exit → Act → World → Prop} {n l : Nat}

def calmOp (o : Oper) : Bool := match o.op with
  | .defer _ => false
  | _ => true

theorem oper_round {o : Oper} {a : Act} {w : World} {K : Act → World → Prop} (hd : calmOp o = true) (h : o.wp P a w K Q) : o.wpIn (Fence.wide.inRound l) n P a w K Q := by
  refine ⟨fun _ _ => trivial, ?_⟩
  rw [Oper.semAt_eq _ _ _ (fun c e => by unfold calmOp at hd; rw [e] at hd; cases hd)]
  unfold Oper.wp at h
  generalize (execOp a.eval o).run P w = r at h
  match r, h with
  | .ok (.value v) w', h => exact h
  | .ok .skip w', h => exact h
  | .ok (.defer d) w', h => exact h
  | .ok (.enter f args) w', h => exact ⟨(fun h0 => by simp [Fence.wide] at h0), CallsIn.inRound l (callsIn_wide.2 h)⟩
  | .ok (.row row args) w', h => exact ⟨(fun h0 => by simp [Fence.wide] at h0), fun c cs _ => by
      obtain ⟨v, w2, r, s⟩ := h c cs
      exact ⟨v, w2, r, stepsIn_wide.2 s⟩⟩
  | .halt (.panic v) w', h => exact h

theorem any_round (hd : ops.all calmOp = true) (hQ : ¬ LetsOut Q) : ∀ (fuel : Nat) (listed : Array Bool) (a : Act) (w : World), wpAny P md ops Q fuel listed a w → wpAnyIn (Fence.wide.inRound l) n P md ops Q fuel listed a w
  | 0, _, _, _, h => h
  | fuel + 1, listed, a, w, h => ⟨h.1, fun i hi => by
    have h2 := h.2 i hi
    unfold wpOp at h2
    unfold wpOpIn
    cases ho : ops[i]? with
    | none =>
      simp only [ho] at h2 ⊢
      exact any_round hd hQ fuel _ a w h2
    | some o =>
      simp only [ho] at h2 ⊢
      have hc : calmOp o = true := by
        obtain ⟨hlt, he⟩ := Array.getElem?_eq_some_iff.1 ho
        have := Array.all_eq_true.1 hd i hlt
        rwa [he] at this
      split
      · rename_i hw
        rw [if_pos hw] at h2
        rcases h2 with h2 | h2
        · exact oper_round hc (Oper.wp_mono (fun a w h => any_round hd hQ fuel _ a w h) h2)
        · exact absurd h2.2 hQ
      · rename_i hw
        rw [if_neg hw] at h2
        exact ⟨fun _ _ => trivial, any_round hd hQ fuel _ _ w h2⟩⟩

theorem round_after {id : Nat} {a : Act} {w : World} {ol : List Oper} (hm : P.follows .mixedOrders = true) (hd : ol.toArray.all calmOp = true) (hQ : ¬ LetsOut Q) (hB : Region.lexB .any ol.toArray = true)
    (h : wpQuiet P ol.toArray (fun w' => ∃ x : After w, w' = x.w) (fun a' => ∀ w', (∃ x : After w, w' = x.w) → Q .normal a' w') ol a) : (Code.region id ol.toArray true).wpIn (Fence.wide.inRound l) n P Q a w := by
  simp only [Region.lexB, Bool.and_eq_true] at hB
  refine wpIn_region_any hm (any_round hd hQ _ _ _ _ (wpAny_of_quiet (C := fun w' => ∃ x : After w, w' = x.w) (Q := fun a' => ∀ w', (∃ x : After w, w' = x.w) → Q .normal a' w') (fun _ w' hw' h => h w' hw') _ _ _ _ ⟨⟨_, (Below.refl _ w).drew⟩, rfl⟩ ?_))
  have := wpAnyQ_lex (P := P) (C := fun w' => ∃ x : After w, w' = x.w) (md := .any) hB.1 ol.toArray.toList 0 (Array.replicate ol.toArray.size false) a (by simp) (by simpa using hB.2) (by simpa using h)
  simpa using this

theorem round_tail {id : Nat} {a : Act} {w : World} {ol : List Oper} (m : Nat) (hm : P.follows .mixedOrders = true) (hd : ol.toArray.all calmOp = true) (hQ : ¬ LetsOut Q) (hB : Region.lexTailB .any ol.toArray m = true)
    (h : wpStill P ol.toArray w.drew (fun a' => wpList P ol.toArray Q (ol.drop m) a' w.drew) (ol.take m) a) : (Code.region id ol.toArray true).wpIn (Fence.wide.inRound l) n P Q a w := by
  simp only [Region.lexTailB, Bool.and_eq_true, decide_eq_true_eq] at hB
  obtain ⟨⟨⟨⟨hsel, hn⟩, hs⟩, hc⟩, hlex⟩ := hB
  have htl : (ol.take m).length = m := by simp at hn ⊢; omega
  have hdl : (ol.drop m).length = ol.toArray.size - m := by simp
  have H := wpAnyL_lex (md := .any) (g := ol.toArray.size - m) hsel hs hc hn (ol.take m) 0 (Array.replicate ol.toArray.size false) a (fun j hj => by
    rw [htl] at hj
    simp [hj]) (by simpa using htl) ⟨by simp, fun j oj _ hl => (by rw [getD_replicate_false] at hl; cases hl), fun t _ ht => getD_in (by simpa using ht) (getD_replicate_false _ _)⟩ (by rw [htl]; exact hlex) h
  have H2 := wpAny_of_head (Q' := Q) (g := ol.toArray.size - m) (fun listed a' hL => by
    have := wpAny_of_seq (md := .any) (Q' := Q) (ol.drop m) m listed a' w.drew (fun j => by simp [List.getElem?_drop]) (by rw [hdl]; exact hL.1) hL.2
    rwa [hdl] at this) _ _ _ H
  rw [htl, show m + (ol.toArray.size - m) = ol.toArray.size by omega] at H2
  exact wpIn_region_any hm (any_round hd hQ _ _ _ _ H2)

end Go.Proofs.YtnodiejfhkjliaaDoor.Wd
