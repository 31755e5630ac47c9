/- Plain: the last slash, and the prefix that a text says. -/
import Derived.Test.YtnodiejfhkjliaaDoorParseD
import Derived.Lib.LastIndexByte
namespace Go.Proofs.YtnodiejfhkjliaaDoor.Pf
open Go.Lib (decDigits)
open Go.RowKit Go.Shelf Go.Proofs.YtnodiejfhkjliaaDoor.Wd Go.Proofs.YtnodiejfhkjliaaDoor.Px Go.Proofs.YtnodiejfhkjliaaDoor.By Go.Proofs.YtnodiejfhkjliaaDoor.En Go.Proofs.YtnodiejfhkjliaaDoor.Pl

theorem last_spec (c : UInt8) (t : List UInt8) : (Lib.lastIndexByte ⟨t.toArray⟩ (c.toNat : Int) = -1 ∧ c ∉ t) ∨
    (∃ q : Nat, Lib.lastIndexByte ⟨t.toArray⟩ (c.toNat : Int) = q ∧ q < t.length ∧ t = t.take q ++ c :: t.drop (q + 1) ∧ c ∉ t.drop (q + 1)) := by
  have hsz : (⟨t.toArray⟩ : ByteArray).size = t.length := rfl
  have hat : ∀ (j : Nat) (hj : j < t.length), (⟨t.toArray⟩ : ByteArray).data[j]! = t[j] := fun j hj => by simp [hj]
  have hne : ∀ x : UInt8, ((x.toNat : Int) ≠ (c.toNat : Int)) → x ≠ c := fun x h e => h (by rw [e])
  rcases Lib.lastIdx_spec ⟨t.toArray⟩ (c.toNat : Int) (⟨t.toArray⟩ : ByteArray).size with ⟨h1, h2⟩ | ⟨i, h1, h2, h3, h4⟩
  · refine .inl ⟨h1, fun hc => ?_⟩
    obtain ⟨j, hj, rfl⟩ := List.mem_iff_getElem.1 hc
    have := h2 j hj
    rw [hat j hj] at this
    exact this rfl
  · rw [hsz] at h1 h4
    rw [hat i h1] at h3
    have hic : t[i] = c := UInt8.toNat_inj.1 (by omega)
    refine .inr ⟨i, h2, h1, ?_, fun hc => ?_⟩
    · rw [← hic, ← List.drop_eq_getElem_cons h1, List.take_append_drop]
    · obtain ⟨j, hj, he⟩ := List.mem_iff_getElem.1 hc
      have hj2 : j < t.length - (i + 1) := by simpa using hj
      have := h4 (i + 1 + j) (by omega) (by omega)
      rw [hat _ (by omega)] at this
      rw [List.getElem_drop] at he
      exact this (by rw [he])

theorem cut_last {s : UInt8} : ∀ {a a' r r' : List UInt8}, a ++ s :: r = a' ++ s :: r' → s ∉ r → s ∉ r' → a = a' ∧ r = r'
  | [], [], r, r', h, _, _ => by simpa using h
  | [], x :: a', r, r', h, h1, _ => by
    simp only [List.nil_append, List.cons_append, List.cons.injEq] at h
    exact absurd (by rw [h.2]; simp) h1
  | x :: a, [], r, r', h, _, h2 => by
    simp only [List.nil_append, List.cons_append, List.cons.injEq] at h
    exact absurd (by rw [← h.2]; simp) h2
  | x :: a, y :: a', r, r', h, h1, h2 => by
    simp only [List.cons_append, List.cons.injEq] at h
    obtain ⟨e1, e2⟩ := cut_last h.2 h1 h2
    exact ⟨by rw [h.1, e1], e2⟩

/-- what Parse answers -/
def ofP : Option (Int × Nat × Int) → Value
  | some p => .tuple #[.agg #[.int .i64 p.1, .int .u64 ((p.2.1 / 18446744073709551616 : Nat) : Int), .int .u64 ((p.2.1 % 18446744073709551616 : Nat) : Int), .int .i64 p.2.2], .int .i64 0]
  | none => .tuple #[.agg #[.int .i64 0, .int .u64 0, .int .u64 0, .int .i64 0], .int .i64 70]

theorem prsP_parts {a r : List UInt8} (h47 : (47 : UInt8) ∉ r) {f : Int} {n : Nat} {b : Int} (h : okP f n b = true) (e : prP f n b = a ++ 47 :: r) : prsA a = some (f, n) ∧ Lib.atoiAll r = .ok b := by
  rw [prP_of h] at e
  obtain ⟨e1, e2⟩ := cut_last e (dec_no rfl _) h47
  have hx := (okP_iff f n b).1 h
  have hw : wid f ≤ 128 := by unfold wid; split <;> (try split) <;> omega
  refine ⟨by rw [← e1]; exact prsA_prt hx.1, ?_⟩
  rw [← e2, atoi_digits _ (decDigits_ne _) (decDigits_dig _) (by rw [decDigits_val]; omega), decDigits_val]
  congr 1
  omega
theorem prsP_slash {t : List UInt8} (h : (47 : UInt8) ∉ t) : prsP t = none := prsP_none fun f n b hk e => by
  rw [prP_of hk] at e
  exact h (by rw [← e]; simp)
theorem prsP_addr {a r : List UInt8} (h47 : (47 : UInt8) ∉ r) (h : prsA a = none) : prsP (a ++ 47 :: r) = none := prsP_none fun f n b hk e => by
  have := (prsP_parts h47 hk e).1
  rw [h] at this; cases this
theorem prsP_atoi {a r : List UInt8} (h47 : (47 : UInt8) ∉ r) (h : ∀ v, Lib.atoiAll r ≠ .ok v) : prsP (a ++ 47 :: r) = none := prsP_none fun _ _ b hk e => h b (prsP_parts h47 hk e).2

theorem num_of {f : Int} {N : Nat} (h : okA f N = true) : vA f (N / 18446744073709551616) (N % 18446744073709551616) = true ∧ num f (N / 18446744073709551616) (N % 18446744073709551616) = N := by
  rcases (okA_iff f N).1 h with ⟨rfl, hN⟩ | ⟨rfl, hN⟩
  · refine ⟨by simp [vA], ?_⟩
    simp [num]; omega
  · refine ⟨by simp [vA]; omega, ?_⟩
    simp [num]; omega
theorem vP_of {f : Int} {N : Nat} (h : okA f N = true) (b : Int) : vP f (N / 18446744073709551616) (N % 18446744073709551616) b = okP f N b := by
  obtain ⟨h1, h2⟩ := num_of h
  unfold vP okP
  rw [h1, h2, h]
theorem pT_of {f : Int} {N : Nat} (h : okA f N = true) (b : Int) : pT f (N / 18446744073709551616) (N % 18446744073709551616) b = prP f N b := by
  obtain ⟨h1, h2⟩ := num_of h
  unfold pT prP
  rw [vP_of h, prT_yes h1, h2]
theorem okA_small {f : Int} {N : Nat} (h : okA f N = true) : N / 18446744073709551616 < 18446744073709551616 ∧ N % 18446744073709551616 < 18446744073709551616 := by
  rcases (okA_iff f N).1 h with ⟨rfl, hN⟩ | ⟨rfl, hN⟩ <;> constructor <;> omega
theorem prsP_bad {a r : List UInt8} (h47 : (47 : UInt8) ∉ r) {f : Int} {N : Nat} {v : Int} (h1 : prsA a = some (f, N)) (h2 : Lib.atoiAll r = .ok v) (h : okP f N v = false ∨ prP f N v ≠ a ++ 47 :: r) : prsP (a ++ 47 :: r) = none := prsP_none fun f' n' b' hk e => by
  obtain ⟨e1, e2⟩ := prsP_parts h47 hk e
  rw [h1] at e1; rw [h2] at e2
  injection e1 with e1; injection e1 with e1 e3; injection e2 with e2
  subst e1 e3 e2
  rcases h with h | h
  · rw [h] at hk; cases hk
  · exact h e

end Go.Proofs.YtnodiejfhkjliaaDoor.Pf
