/- Contract: a stamp out of its text, by the reference. -/
import Derived.Test.YtpkmekdpmkfcdaaGreatDoorStampH
namespace Go.Proofs.YtpkmekdpmkfcdaaGreatDoor.St
open Go.RowKit Go.Proofs.YtpkmekdpmkfcdaaGreatDoor.Wd Go.Proofs.YtpkmekdpmkfcdaaGreatDoor.Pl Go.Proofs.YtpkmekdpmkfcdaaGreatDoor.En Go.Proofs.YtpkmekdpmkfcdaaGreatDoor.By

theorem valA_lt (l : List UInt8) (h : ∀ c ∈ l, isDig c = true) : valA 0 l < 10 ^ l.length := by
  have key : ∀ l : List UInt8, (∀ c ∈ l, isDig c = true) → ∀ acc, valA acc l < (acc + 1) * 10 ^ l.length := by
    intro l
    induction l with
    | nil => intro _ acc; simp [valA]
    | cons c l ih =>
      intro h acc
      have hc := h c (by simp)
      unfold isDig at hc
      simp at hc
      have := ih (fun x hx => h x (by simp [hx])) (acc * 10 + (c.toNat - 48))
      rw [valA_cons, List.length_cons, Nat.pow_succ]
      refine Nat.lt_of_lt_of_le this ?_
      have h1 : acc * 10 + (c.toNat - 48) + 1 ≤ (acc + 1) * 10 := by omega
      calc (acc * 10 + (c.toNat - 48) + 1) * 10 ^ l.length ≤ ((acc + 1) * 10) * 10 ^ l.length := Nat.mul_le_mul_right _ h1
        _ = (acc + 1) * (10 ^ l.length * 10) := by rw [Nat.mul_assoc, Nat.mul_comm 10]
  have := key l h 0
  simpa using this

/-- what a text that is a stamp's looks like -/
theorem prs_look {l : List UInt8} {s n : Int} (h : prs l = some (s, n)) : ∃ at_ : Nat, l.length = at_ + 10 ∧ 1 ≤ at_ ∧ at_ ≤ 19 ∧ l[at_]? = some 46 ∧ (∀ j c, j ≠ at_ → l[j]? = some c → isDig c = true) ∧
    s = (valA 0 (l.take at_) : Int) ∧ n = (valA 0 (l.drop (at_ + 1)) : Int) ∧ s ≤ 9223372036854775807 := by
  obtain ⟨hv, hs, e⟩ := prs_some h
  obtain ⟨a, b, e2, ha, hb, hne, hl, hl2, hva, hvb⟩ := prt_shape hv hs
  rw [e] at e2
  have hp : 0 < a.length := List.length_pos_iff.2 hne
  refine ⟨a.length, by rw [e2]; simp; omega, hp, hl2, by rw [e2]; simp, ?_, ?_, ?_, hs⟩
  · intro j c hj hc
    rw [e2, List.getElem?_append] at hc
    split at hc
    · exact ha c (List.mem_of_getElem? hc)
    · rename_i hge
      obtain ⟨m, hm⟩ : ∃ m, j - a.length = m + 1 := ⟨j - a.length - 1, by omega⟩
      rw [hm, List.getElem?_cons_succ] at hc
      exact hb c (List.mem_of_getElem? hc)
  · rw [← hva, e2]; simp
  · rw [← hvb, e2]
    rw [List.drop_append, List.drop_eq_nil_of_le (by omega), List.nil_append, show a.length + 1 - a.length = 1 by omega]
    rfl

/-- what the reference knows when i bytes are over -/
structure Rp (l : List UInt8) (a i : Nat) (X Y : Int) : Prop where
  len : l.length = a + 10
  lo : 1 ≤ a
  hi : a ≤ 19
  pt : l[a]? = some 46
  dig : ∀ j c, j < i → j ≠ a → l[j]? = some c → isDig c = true
  sec : X = (valA 0 (l.take (min i a)) : Int)
  nano : Y = (valA 0 ((l.drop (a + 1)).take (i - (a + 1))) : Int)
  le : X ≤ 9223372036854775807

theorem Rp.start {l : List UInt8} {a : Nat} (h1 : l.length = a + 10) (h2 : 1 ≤ a) (h3 : a ≤ 19) (h4 : l[a]? = some 46) : Rp l a 0 0 0 :=
  ⟨h1, h2, h3, h4, fun j c hj => by omega, by simp [valA], by simp [valA], by omega⟩
theorem Rp.skip {l : List UInt8} {a : Nat} {X Y : Int} (h : Rp l a a X Y) : Rp l a (a + 1) X Y :=
  ⟨h.len, h.lo, h.hi, h.pt, fun j c hj hja hc => h.dig j c (by omega) hja hc, by rw [show min (a + 1) a = min a a by omega]; exact h.sec, by rw [h.nano]; simp, h.le⟩
theorem Rp.X0 {l : List UInt8} {a i : Nat} {X Y : Int} (h : Rp l a i X Y) : 0 ≤ X := by rw [h.sec]; omega
theorem Rp.Y0 {l : List UInt8} {a i : Nat} {X Y : Int} (h : Rp l a i X Y) (hi : i ≤ l.length) : 0 ≤ Y ∧ Y ≤ 999999999 := by
  rw [h.nano]
  refine ⟨by omega, ?_⟩
  have hd : ∀ c ∈ (l.drop (a + 1)).take (i - (a + 1)), isDig c = true := by
    intro c hc
    obtain ⟨j, hj, e⟩ := List.getElem_of_mem hc
    rw [List.length_take, List.length_drop] at hj
    rw [List.getElem_take, List.getElem_drop] at e
    exact h.dig (a + 1 + j) c (by omega) (by omega) (by rw [List.getElem?_eq_getElem (by omega), e])
  have h1 := valA_lt _ hd
  have h2 : ((l.drop (a + 1)).take (i - (a + 1))).length ≤ 9 := by
    rw [List.length_take, List.length_drop]; have := h.len; omega
  have h3 := Nat.pow_le_pow_right (show 0 < 10 by omega) h2
  omega
theorem Rp.low {l : List UInt8} {a i : Nat} {X Y : Int} {c : UInt8} (h : Rp l a i X Y) (hi : i < a) (hc : l[i]? = some c) (hd : isDig c = true) (hle : X * 10 + ((c.toNat : Int) - 48) ≤ 9223372036854775807) :
    Rp l a (i + 1) (X * 10 + ((c.toNat : Int) - 48)) Y := by
  have hd2 := hd
  unfold isDig at hd2
  simp only [decide_eq_true_eq] at hd2
  refine ⟨h.len, h.lo, h.hi, h.pt, fun j d hj hja hjc => ?_, ?_, ?_, hle⟩
  · rcases Nat.lt_or_ge j i with hlt | hge
    · exact h.dig j d hlt hja hjc
    · obtain rfl : j = i := by omega
      rw [hc] at hjc; injection hjc with e; rw [← e]; exact hd
  · have e := List.getElem?_eq_some_iff.1 hc
    obtain ⟨h5, h6⟩ := e
    rw [show min (i + 1) a = i + 1 by omega, List.take_succ_eq_append_getElem h5, valA_snoc, h6, h.sec, show min i a = i by omega]
    omega
  · rw [h.nano, show i + 1 - (a + 1) = 0 by omega, show i - (a + 1) = 0 by omega]
theorem Rp.high {l : List UInt8} {a i : Nat} {X Y : Int} {c : UInt8} (h : Rp l a i X Y) (hi : a < i) (hc : l[i]? = some c) (hd : isDig c = true) :
    Rp l a (i + 1) X (Y * 10 + ((c.toNat : Int) - 48)) := by
  have hd2 := hd
  unfold isDig at hd2
  simp only [decide_eq_true_eq] at hd2
  refine ⟨h.len, h.lo, h.hi, h.pt, fun j d hj hja hjc => ?_, ?_, ?_, h.le⟩
  · rcases Nat.lt_or_ge j i with hlt | hge
    · exact h.dig j d hlt hja hjc
    · obtain rfl : j = i := by omega
      rw [hc] at hjc; injection hjc with e; rw [← e]; exact hd
  · rw [h.sec, show min (i + 1) a = a by omega, show min i a = a by omega]
  · have e := List.getElem?_eq_some_iff.1 hc
    obtain ⟨h5, h6⟩ := e
    rw [show i + 1 - (a + 1) = i - (a + 1) + 1 by omega, List.take_succ_eq_append_getElem (by rw [List.length_drop]; omega), valA_snoc, List.getElem_drop, h.nano]
    simp only [show a + 1 + (i - (a + 1)) = i by omega, h6]
    omega
theorem Rp.bad {l : List UInt8} {a i : Nat} {X Y : Int} {c : UInt8} (h : Rp l a i X Y) (hi : i ≠ a) (hc : l[i]? = some c) (hd : isDig c = false) : prs l = none := by
  cases e : prs l with
  | none => rfl
  | some p =>
    obtain ⟨b, hl, h1, h2, h3, h4, _⟩ := prs_look (s := p.1) (n := p.2) e
    have : a = b := by have := h.len; omega
    subst this
    have := h4 i c hi hc
    rw [this] at hd; cases hd
theorem valA_take_le (l : List UInt8) (i a : Nat) (h : i ≤ a) : valA 0 (l.take i) ≤ valA 0 (l.take a) := by
  have : l.take a = l.take i ++ (l.take a).drop i := by
    conv => lhs; rw [← List.take_append_drop i (l.take a)]
    rw [List.take_take, show min i a = i by omega]
  rw [this, valA_append]
  exact valA_mono _ _
theorem Rp.over {l : List UInt8} {a i : Nat} {X Y : Int} {c : UInt8} (h : Rp l a i X Y) (hi : i < a) (hc : l[i]? = some c) (hd : isDig c = true) (hov : 9223372036854775807 < X * 10 + ((c.toNat : Int) - 48)) : prs l = none := by
  have hd2 := hd
  unfold isDig at hd2
  simp only [decide_eq_true_eq] at hd2
  cases e : prs l with
  | none => rfl
  | some p =>
    obtain ⟨b, hl, h1, h2, h3, h4, h5, h6, h7⟩ := prs_look (s := p.1) (n := p.2) e
    have : a = b := by have := h.len; omega
    subst this
    have e := List.getElem?_eq_some_iff.1 hc
    obtain ⟨h8, h9⟩ := e
    have h10 := valA_take_le l (i + 1) a (by omega)
    rw [List.take_succ_eq_append_getElem h8, valA_snoc, h9] at h10
    have h11 := h.sec
    rw [show min i a = i by omega] at h11
    omega
theorem Rp.no {l : List UInt8} {a : Nat} {X Y : Int} (h : Rp l a l.length X Y) (hp : prt X Y ≠ l) : prs l = none := by
  cases e : prs l with
  | none => rfl
  | some p =>
    obtain ⟨b, hl, h1, h2, h3, h4, h5, h6, h7⟩ := prs_look (s := p.1) (n := p.2) e
    have : a = b := by have := h.len; omega
    subst this
    have hx : X = p.1 := by rw [h.sec, h5, show min l.length a = a by omega]
    have hy : Y = p.2 := by rw [h.nano, h6, List.take_of_length_le (by rw [List.length_drop]; omega)]
    exact absurd (by rw [hx, hy]; exact (prs_some (s := p.1) (n := p.2) e).2.2) hp
theorem prs_first {l : List UInt8} (h : ¬ (11 ≤ l.length ∧ l.length ≤ 29)) : prs l = none := by
  cases e : prs l with
  | none => rfl
  | some p =>
    obtain ⟨b, hl, h1, h2, _⟩ := prs_look (s := p.1) (n := p.2) e
    omega
theorem prs_second {l : List UInt8} {a : Nat} {c : UInt8} (h : l.length = a + 10) (hc : l[a]? = some c) (h46 : c ≠ 46) : prs l = none := by
  cases e : prs l with
  | none => rfl
  | some p =>
    obtain ⟨b, hl, h1, h2, h3, _⟩ := prs_look (s := p.1) (n := p.2) e
    have : a = b := by omega
    subst this
    rw [hc] at h3; injection h3 with h3
    exact absurd h3 h46

end Go.Proofs.YtpkmekdpmkfcdaaGreatDoor.St
