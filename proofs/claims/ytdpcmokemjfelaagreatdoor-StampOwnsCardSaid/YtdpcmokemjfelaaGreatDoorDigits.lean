/- Contract: the reference's digits of a number. -/
import Derived.Test.YtdpcmokemjfelaaGreatDoorStampA
import Derived.Test.YtdpcmokemjfelaaGreatDoorBytesA
import Derived.Test.YtdpcmokemjfelaaGreatDoorStampF
import Derived.Laws.IdiomStrings
import Derived.BigRegion
namespace Go.Proofs.YtdpcmokemjfelaaGreatDoor.St
open Go.RowKit Go.Proofs.YtdpcmokemjfelaaGreatDoor.Wd Go.Proofs.YtdpcmokemjfelaaGreatDoor.Pl Go.Proofs.YtdpcmokemjfelaaGreatDoor.En Go.Proofs.YtdpcmokemjfelaaGreatDoor.By

/-- the length in a slot that holds a slice -/
def lenOf : Value → Nat | .slice _ n _ => n | _ => 0

theorem own_slice {w : World} {base : Nat} {e : TypeId} {n : Nat} {v : Value} {xs : List Value} (h : w.ownsRow base e 1 v n xs) : ∃ A c, v = .slice A n c := by
  rcases h.2 with ⟨rfl, rfl⟩ | ⟨g, cap, _, rfl, _⟩
  · exact ⟨_, _, rfl⟩
  · exact ⟨_, _, rfl⟩

theorem dg_len (n k : Nat) (hk : 1 ≤ k ∨ 1 ≤ n) (hn : n ≤ 9223372036854775807) (h9 : k ≤ 9) : (dg n k).length ≤ 19 ∧ 1 ≤ (dg n k).length := by
  rw [dg_pad n k hk]
  have h := decDigits_len_le 19 n (by omega) (by omega)
  have h2 : 0 < (Lib.decDigits n).length := List.length_pos_iff.2 (decDigits_ne n)
  unfold padTo
  simp
  omega

/-- what is still to come, and what has come (last digit first) -/
def Dg (N K m : Nat) (b : List UInt8) : Prop := dg N K = dg m (K - b.length) ++ b.reverse
theorem Dg.step {N K m : Nat} {b : List UInt8} (h : Dg N K m b) (hm : 0 < m ∨ b.length < K) : Dg N K (m / 10) (b ++ [UInt8.ofNat (48 + m % 10)]) := by
  unfold Dg at *
  rw [h, dg_step m (K - b.length) (by omega), List.length_append, List.length_singleton, List.reverse_append, Nat.sub_sub]
  simp
theorem Dg.done {N K : Nat} {b : List UInt8} (h : Dg N K 0 b) (hb : K ≤ b.length) : dg N K = b.reverse := by
  unfold Dg at h
  rw [h, show K - b.length = 0 by omega, dg_zero, List.nil_append]
theorem Dg.le {N K m : Nat} {b : List UInt8} (h : Dg N K m b) : b.length ≤ (dg N K).length := by
  unfold Dg at h
  rw [h]; simp

theorem cel_dig (m : Nat) : cel (UInt8.ofNat (48 + m % 10)) = .int .u8 (48 + (m : Int) % 10) := by
  unfold cel
  rw [UInt8.toNat_ofNat', Nat.mod_eq_of_lt (by omega)]
  congr 1
theorem snoc_cel (b : List UInt8) (c : UInt8) : (b ++ [c]).map cel = b.map cel ++ [cel c] := by simp

/-- the list b, its first k and its last k places exchanged -/
def Rv (b : List UInt8) (k : Nat) (cur : List UInt8) : Prop := cur.length = b.length ∧ ∀ j, j < b.length → cur[j]? = if j < k ∨ b.length - k ≤ j then b[b.length - 1 - j]? else b[j]?
theorem Rv.start (b : List UInt8) : Rv b 0 b := ⟨rfl, fun j hj => by rw [if_neg (by omega)]⟩
theorem Rv.step {b cur : List UInt8} {k jj : Nat} (h : Rv b k cur) (hj : jj + k + 1 = b.length) (hk : k < jj) (h1 : k < cur.length) (h2 : jj < cur.length) : Rv b (k + 1) ((cur.set k cur[jj]).set jj cur[k]) := by
  obtain ⟨hl, hc⟩ := h
  refine ⟨by simp [hl], fun j hjl => ?_⟩
  have e1 : cur[jj]? = some cur[jj] := List.getElem?_eq_getElem h2
  have e2 : cur[k]? = some cur[k] := List.getElem?_eq_getElem h1
  have f1 := hc jj (by omega)
  have f2 := hc k (by omega)
  rw [if_neg (by omega)] at f1 f2
  rw [e1] at f1
  rw [e2] at f2
  rw [List.getElem?_set]
  by_cases hj1 : jj = j
  · subst hj1
    rw [if_pos rfl, if_pos (by simpa using h2), if_pos (by omega), f2]
    congr 1; omega
  · rw [if_neg hj1, List.getElem?_set]
    by_cases hj2 : k = j
    · subst hj2
      rw [if_pos rfl, if_pos h1, if_pos (by omega), f1]
      congr 1; omega
    · rw [if_neg hj2, hc j hjl]
      by_cases hc1 : j < k ∨ b.length - k ≤ j
      · rw [if_pos hc1, if_pos (by omega)]
      · rw [if_neg hc1, if_neg (by omega)]
theorem Rv.done {b cur : List UInt8} {k jj : Nat} (h : Rv b k cur) (hj : jj + k + 1 = b.length) (hk : ¬ k < jj) : cur = b.reverse := by
  obtain ⟨hl, hc⟩ := h
  apply List.ext_getElem?
  intro j
  by_cases hjl : j < b.length
  · rw [hc j hjl, List.getElem?_reverse hjl]
    split
    · rfl
    · congr 1; omega
  · rw [List.getElem?_eq_none (by omega), List.getElem?_eq_none (by simp; omega)]

theorem set_cels (cur : List UInt8) (k jj : Nat) (h1 : k < cur.length) (h2 : jj < cur.length) :
    ((cur.map cel).set k (cel cur[jj])).set jj (cel cur[k]) = ((cur.set k cur[jj]).set jj cur[k]).map cel := by
  rw [List.map_set, List.map_set]

end Go.Proofs.YtdpcmokemjfelaaGreatDoor.St
