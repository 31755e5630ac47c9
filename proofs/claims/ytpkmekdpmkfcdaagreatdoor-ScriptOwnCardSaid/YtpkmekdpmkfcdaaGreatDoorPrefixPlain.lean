/- Plain lemmas on addresses and prefixes as numbers: no program in sight. -/
namespace Go.Proofs.YtpkmekdpmkfcdaaGreatDoor.Px
/-- how many bits an address of the family has -/
def wid (f : Int) : Nat := if f = 4 then 32 else if f = 6 then 128 else 0
/-- an address as a number -/
def num (f : Int) (hi lo : Nat) : Nat := if f = 4 then lo else hi * 18446744073709551616 + lo
def vA (f : Int) (hi lo : Nat) : Bool := decide (f = 6) || (decide (f = 4) && (decide (hi = 0) && decide (lo < 4294967296)))
theorem vA_iff (f : Int) (hi lo : Nat) : vA f hi lo = true ↔ f = 6 ∨ (f = 4 ∧ hi = 0 ∧ lo < 4294967296) := by simp [vA]
def vP (f : Int) (hi lo : Nat) (b : Int) : Bool := vA f hi lo && (decide (0 ≤ b) && (decide (b ≤ (wid f : Int)) && decide (num f hi lo % 2 ^ (wid f - b.toNat) = 0)))
theorem vP_iff (f : Int) (hi lo : Nat) (b : Int) : vP f hi lo b = true ↔ vA f hi lo = true ∧ 0 ≤ b ∧ b ≤ (wid f : Int) ∧ num f hi lo % 2 ^ (wid f - b.toNat) = 0 := by simp [vP]
/-- the bit i of an address, from the first on -/
def bitAt (f : Int) (hi lo : Nat) (i : Nat) : Bool := (num f hi lo).testBit (wid f - 1 - i)
/-- no bit below k is set just where k bits are gone -/
theorem low_zero (n k : Nat) : n % 2 ^ k = 0 ↔ ∀ j,j < k → n.testBit j = false := by
 constructor
 ·intro h j hj
  have : (n % 2 ^ k).testBit j = false := by rw [h];simp
  rw [Nat.testBit_mod_two_pow] at this
  simpa [hj] using this
 ·intro h
  apply Nat.eq_of_testBit_eq
  intro j
  rw [Nat.testBit_mod_two_pow,Nat.zero_testBit]
  by_cases hj : j < k
  ·simp [h j hj]
  ·simp [hj]
/-- all bits from b on are nought -/
theorem valid_bits {f : Int} {hi lo : Nat} {b : Nat} (hb : b ≤ wid f) :
  num f hi lo % 2 ^ (wid f - b) = 0 ↔ ∀ i,b ≤ i → i < wid f → bitAt f hi lo i = false := by
 rw [low_zero]
 constructor
 ·intro h i h1 h2
  exact h _ (by omega)
 ·intro h j hj
  have := h (wid f - 1 - j) (by omega) (by omega)
  unfold bitAt at this
  rwa [show wid f - 1 - (wid f - 1 - j) = j by omega] at this
theorem mul_mod_zero (hi lo k : Nat) (hl : lo < 18446744073709551616) :
  (hi * 18446744073709551616 + lo) % (18446744073709551616 * 2 ^ k) = 0 ↔ lo = 0 ∧ hi % 2 ^ k = 0 := by
 rw [Nat.mod_mul,show (hi * 18446744073709551616 + lo) % 18446744073709551616 = lo by omega,
  show (hi * 18446744073709551616 + lo) / 18446744073709551616 = hi by omega]
 omega
/-- the family 6 by its halves: up to 64 bits .. -/
theorem zero6_low {hi lo b : Nat} (hb : b ≤ 64) (hl : lo < 18446744073709551616) :
  num 6 hi lo % 2 ^ (128 - b) = 0 ↔ lo = 0 ∧ hi % 2 ^ (64 - b) = 0 := by
 have e : num 6 hi lo = hi * 18446744073709551616 + lo := by simp [num]
 rw [e,show 128 - b = 64 + (64 - b) by omega,Nat.pow_add,show (2 : Nat) ^ 64 = 18446744073709551616 from rfl]
 exact mul_mod_zero hi lo _ hl
/-- .. and more -/
theorem zero6_high {hi lo b : Nat} (hb : 64 ≤ b) (hb2 : b ≤ 128) :
  num 6 hi lo % 2 ^ (128 - b) = 0 ↔ lo % 2 ^ (128 - b) = 0 := by
 have e : num 6 hi lo = hi * 18446744073709551616 + lo := by simp [num]
 have h2 : (18446744073709551616 : Nat) = 2 ^ (128 - b) * 2 ^ (b - 64) := by
  rw [← Nat.pow_add,show 128 - b + (b - 64) = 64 by omega]
 rw [e,h2,Nat.add_mod,Nat.mul_comm hi,Nat.mul_assoc,Nat.mul_mod_right,Nat.zero_add,Nat.mod_mod]
theorem div6_low {hi lo hi' lo' b : Nat} (hb : b ≤ 64) (hl : lo < 18446744073709551616) (hl' : lo' < 18446744073709551616) :
  num 6 hi lo / 2 ^ (128 - b) = num 6 hi' lo' / 2 ^ (128 - b) ↔ hi / 2 ^ (64 - b) = hi' / 2 ^ (64 - b) := by
 have e : ∀ h l : Nat,num 6 h l = h * 18446744073709551616 + l := by intro h l;simp [num]
 rw [e,e,show 128 - b = 64 + (64 - b) by omega,Nat.pow_add,show (2 : Nat) ^ 64 = 18446744073709551616 from rfl,← Nat.div_div_eq_div_mul,← Nat.div_div_eq_div_mul,
  show (hi * 18446744073709551616 + lo) / 18446744073709551616 = hi by omega,show (hi' * 18446744073709551616 + lo') / 18446744073709551616 = hi' by omega]
theorem div6_high {hi lo hi' lo' b : Nat} (hb : 64 ≤ b) (hb2 : b ≤ 128) (hl : lo < 18446744073709551616) (hl' : lo' < 18446744073709551616) :
  num 6 hi lo / 2 ^ (128 - b) = num 6 hi' lo' / 2 ^ (128 - b) ↔ hi = hi' ∧ lo / 2 ^ (128 - b) = lo' / 2 ^ (128 - b) := by
 have e : ∀ h l : Nat,num 6 h l = h * 18446744073709551616 + l := by intro h l;simp [num]
 have h2 : (18446744073709551616 : Nat) = 2 ^ (b - 64) * 2 ^ (128 - b) := by
  rw [← Nat.pow_add,show b - 64 + (128 - b) = 64 by omega]
 have hp : 0 < 2 ^ (128 - b) := Nat.two_pow_pos _
 have f : ∀ h l : Nat,(h * 18446744073709551616 + l) / 2 ^ (128 - b) = h * 2 ^ (b - 64) + l / 2 ^ (128 - b) := by
  intro h l
  rw [h2,← Nat.mul_assoc,Nat.add_comm,Nat.add_mul_div_right _ _ hp,Nat.add_comm]
 have g : ∀ l : Nat,l < 18446744073709551616 → l / 2 ^ (128 - b) < 2 ^ (b - 64) := by
  intro l hl
  rw [Nat.div_lt_iff_lt_mul hp,← h2];exact hl
 rw [e,e,f,f]
 have g1 := g lo hl
 have g2 := g lo' hl'
 constructor
 ·intro h
  have hm := congrArg (· % 2 ^ (b - 64)) h
  have q : ∀ x y : Nat,(x * 2 ^ (b - 64) + y) % 2 ^ (b - 64) = y % 2 ^ (b - 64) := by
   intro x y;rw [Nat.add_comm,Nat.add_mul_mod_self_right]
  simp only [q,Nat.mod_eq_of_lt g1,Nat.mod_eq_of_lt g2] at hm
  have hd := congrArg (· / 2 ^ (b - 64)) h
  rw [Nat.add_comm,Nat.add_mul_div_right _ _ (Nat.two_pow_pos _),Nat.div_eq_of_lt g1,Nat.add_comm (hi' * _),Nat.add_mul_div_right _ _ (Nat.two_pow_pos _),Nat.div_eq_of_lt g2] at hd
  exact ⟨by omega,hm⟩
 ·rintro ⟨rfl,h⟩
  rw [h]
/-- a number without its low bits -/
theorem cut_eq (a p k : Nat) (hp : p % 2 ^ k = 0) : a - a % 2 ^ k = p ↔ a / 2 ^ k = p / 2 ^ k := by
 have h1 := Nat.div_add_mod a (2 ^ k)
 have h2 := Nat.div_add_mod p (2 ^ k)
 constructor
 ·intro h
  have : 2 ^ k * (a / 2 ^ k) = 2 ^ k * (p / 2 ^ k) := by omega
  exact Nat.eq_of_mul_eq_mul_left (Nat.two_pow_pos k) this
 ·intro h
  rw [h] at h1
  omega
theorem cut_self (a k : Nat) : a - a % 2 ^ k = a ↔ a % 2 ^ k = 0 := by
 have := Nat.mod_le a (2 ^ k)
 omega
end Go.Proofs.YtpkmekdpmkfcdaaGreatDoor.Px
