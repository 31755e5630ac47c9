/- Plain: what a text's parts say, and the address that the text says. -/
import Derived.Test.YtnodiejfhkjliaaDoorParts
import Derived.Test.YtnodiejfhkjliaaDoorHexPub
import Derived.Test.YtnodiejfhkjliaaDoorPrefR
namespace Go.Proofs.YtnodiejfhkjliaaDoor.Pf
open Go.Lib (decDigits)
open Go.RowKit Go.Shelf Go.Proofs.YtnodiejfhkjliaaDoor.Wd Go.Proofs.YtnodiejfhkjliaaDoor.Px Go.Proofs.YtnodiejfhkjliaaDoor.By Go.Proofs.YtnodiejfhkjliaaDoor.En Go.Proofs.YtnodiejfhkjliaaDoor.Pl

theorem hexg_hexd : ∀ x, x < 16 → hexg (hexd x) = x := by decide
theorem v16_hex4 (g : Nat) (h : g < 65536) : v16 (hex4 g) = some g := by
  have k (x : Nat) : hexg (hexd (x % 16)) = x % 16 := hexg_hexd _ (by omega)
  unfold v16
  rw [if_neg (by simp [hex4]), hex4, rd16_ok (by rw [k]; omega) (by rw [k]; omega), k, rd16_ok (by rw [k]; omega) (by rw [k]; omega), k, rd16_ok (by rw [k]; omega) (by rw [k]; omega), k, rd16_ok (by rw [k]; omega) (by rw [k]; omega), k]
  simp only [rd16]
  congr 1
  omega
theorem valA_ge : ∀ (l : List UInt8) (a : Nat), a ≤ valA a l
  | [], a => Nat.le_refl _
  | c :: r, a => Nat.le_trans (by omega) (valA_ge r (a * 10 + (c.toNat - 48)))
theorem uintM_dig (M : Nat) (hM : M < 1000000) : ∀ (l : List UInt8) (a : Nat), (∀ c ∈ l, isDig c = true) → valA a l ≤ M → Lib.parseUintM M a l = .ok (valA a l)
  | [], a, _, _ => rfl
  | c :: r, a, h, hv => by
    have hd := h c (by simp)
    simp only [isDig, decide_eq_true_eq] at hd
    have hv2 : valA (a * 10 + (c.toNat - 48)) r ≤ M := hv
    have := valA_ge r (a * 10 + (c.toNat - 48))
    rw [Lib.parseUintM, if_pos ⟨by omega, by omega⟩, if_neg (by omega), if_neg (by omega), uintM_dig M hM r _ (fun x hx => h x (by simp [hx])) hv2]
    rfl
theorem v8_dec (d : Nat) (h : d < 256) : v8 (decDigits d) = some d := by
  unfold v8 Lib.parseUintB
  rw [if_neg (decDigits_ne d), uintM_dig _ (by omega) _ 0 (decDigits_dig d) (by rw [decDigits_val]; omega), decDigits_val]

end Go.Proofs.YtnodiejfhkjliaaDoor.Pf
