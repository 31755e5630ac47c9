/- Contract: strings.Join over a row that the call owns; an address's text, family 4, by the program. -/
import Derived.Test.YtnodiejfhkjliaaDoorPrefM
import Derived.Test.YtnodiejfhkjliaaDoorEnv
import Derived.Lib.Join
namespace Go.Proofs.YtnodiejfhkjliaaDoor.Pf
open Go.RowKit Go.Proofs.YtnodiejfhkjliaaDoor.Wd Go.Proofs.YtnodiejfhkjliaaDoor.Px Go.Proofs.YtnodiejfhkjliaaDoor.By Go.Proofs.YtnodiejfhkjliaaDoor.En Go.Proofs.YtnodiejfhkjliaaDoor.Pl

/-- a text as a cell -/
def strc (l : List UInt8) : Value := .string ⟨l.toArray⟩

theorem libjoin (s : UInt8) (l : List (List UInt8)) : Lib.join l [s] = join s l := by
  induction l with
  | nil => rfl
  | cons a r ih =>
    cases r with
    | nil => rw [Lib.join_one]; rfl
    | cons b r => rw [Lib.join_cons, join, ← ih, Lib.join_cons]; simp [Lib.joinTail]

theorem join_own {w : World} {base n : Nat} {v : Value} (s : UInt8) (ls : List (List UInt8)) (hown : w.ownsRow base 9 1 v n (ls.map strc)) (hN : ls.length ≤ 140737488355328) (hlen : (join s ls).length ≤ 140737488355328) :
    Calls Tryd.prog 49 #[v, .string ⟨#[s]⟩] w fun e w' => e = .returned (strc (join s ls)) ∧ Below w.heap.size w w' := by
  have hn : ls.length = n := by have := hown.1; simpa using this
  subst hn
  rcases Nat.eq_zero_or_pos ls.length with h0 | h0
  · obtain rfl : ls = [] := List.eq_nil_of_length_eq_zero h0
    obtain ⟨A, c, rfl⟩ := own_slice hown
    refine (Tryd.strings_Join_none A c ⟨#[s]⟩ w).mono ?_
    rintro e w' ⟨rfl, rfl⟩
    exact ⟨rfl, Below.refl _ _⟩
  · obtain ⟨g, cap, rfl, -, hg⟩ := hown.form h0
    have hc := own_cap hown
    have hj : Lib.join ((ls.map fun l => (⟨l.toArray⟩ : ByteArray)).map (·.data.toList)) (⟨#[s]⟩ : ByteArray).data.toList = join s ls := by
      rw [← libjoin, List.map_map]
      congr 1
      conv => rhs; rw [← List.map_id ls]
      rfl
    have hJ := Tryd.strings_Join g 0 cap (ls.map fun l => (⟨l.toArray⟩ : ByteArray)) ⟨#[s]⟩ w (fun j x hx => by
      rw [Nat.zero_add]
      have := hown.cellAt j (by rw [List.getElem?_map] at hx; have := (List.getElem?_eq_some_iff.1 (Option.map_eq_some_iff.1 hx).choose_spec.1).1; omega)
      rw [this, List.getElem?_map]
      rw [List.getElem?_map, Option.map_eq_some_iff] at hx
      obtain ⟨y, hy, rfl⟩ := hx
      rw [hy]
      rfl) hg (by simpa using hN) (by simpa using hc.1) (by rw [hj]; exact hlen)
    rw [hj, List.length_map] at hJ
    exact hJ

end Go.Proofs.YtnodiejfhkjliaaDoor.Pf
