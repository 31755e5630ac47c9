/- Plain lemmas on the bytes and the texts of addresses and prefixes: no program in sight. -/
import Derived.Test.YtpkmekdpmkfcdaaGreatDoorStampPlain
import Derived.Test.YtpkmekdpmkfcdaaGreatDoorPrefixPlain
namespace Go.Proofs.YtpkmekdpmkfcdaaGreatDoor.Px
open Go.Lib Go.Proofs.YtpkmekdpmkfcdaaGreatDoor.Pl
/-! ### digits to a base -/
def dgs (b : Nat) : Nat → Nat → List Nat
 | 0,_ => []
 | k + 1,n => dgs b k (n / b) ++ [n % b]
def ofD (b : Nat) (l : List Nat) : Nat := l.foldl (fun a d => a * b + d) 0
theorem dgs_len (b k : Nat) : ∀ n,(dgs b k n).length = k := by
 induction k with
 | zero => intro n;rfl
 | succ k ih => intro n;simp [dgs,ih]
theorem dgs_lt (b k : Nat) (hb : 0 < b) : ∀ n,∀ d ∈ dgs b k n,d < b := by
 induction k with
 | zero => intro n d h;simp [dgs] at h
 | succ k ih =>
  intro n d h
  simp only [dgs,List.mem_append,List.mem_singleton] at h
  rcases h with h | h
  ·exact ih _ d h
  ·rw [h];exact Nat.mod_lt _ hb
theorem ofD_snoc (b : Nat) (l : List Nat) (d : Nat) : ofD b (l ++ [d]) = ofD b l * b + d := by simp [ofD]
theorem ofD_dgs (b k : Nat) : ∀ n,n < b ^ k → ofD b (dgs b k n) = n := by
 induction k with
 | zero => intro n h;simp at h;subst h;rfl
 | succ k ih =>
  intro n h
  rw [Nat.pow_succ] at h
  rw [dgs,ofD_snoc,ih _ (Nat.div_lt_of_lt_mul (by rw [Nat.mul_comm];exact h)),Nat.mul_comm]
  exact Nat.div_add_mod n b
theorem snoc_ind {α : Type} {P : List α → Prop} (h0 : P []) (h1 : ∀ l d,P l → P (l ++ [d])) (l : List α) : P l := by
 have key : ∀ r : List α,P r.reverse := by
  intro r
  induction r with
  | nil => exact h0
  | cons a r ih => rw [List.reverse_cons];exact h1 _ _ ih
 have := key l.reverse
 rwa [List.reverse_reverse] at this
theorem ofD_lt (b : Nat) (l : List Nat) (h : ∀ d ∈ l,d < b) : ofD b l < b ^ l.length := by
 induction l using snoc_ind with
 | h0 => simp [ofD]
 | h1 l d ih =>
  rw [ofD_snoc,List.length_append,List.length_singleton,Nat.pow_succ]
  have h1 := ih (fun x hx => h x (by simp [hx]))
  have h2 := h d (by simp)
  have := Nat.mul_le_mul_right b h1
  rw [Nat.succ_mul] at this
  omega
theorem dgs_ofD (b : Nat) (hb : 0 < b) (l : List Nat) (h : ∀ d ∈ l,d < b) : dgs b l.length (ofD b l) = l := by
 induction l using snoc_ind with
 | h0 => rfl
 | h1 l d ih =>
  have h2 := h d (by simp)
  rw [List.length_append,List.length_singleton,dgs,ofD_snoc]
  rw [show (ofD b l * b + d) / b = ofD b l by rw [Nat.add_comm,Nat.add_mul_div_right _ _ hb,Nat.div_eq_of_lt h2,Nat.zero_add],
   show (ofD b l * b + d) % b = d by rw [Nat.add_comm,Nat.add_mul_mod_self_right,Nat.mod_eq_of_lt h2],ih (fun x hx => h x (by simp [hx]))]
/-- the bytes of a number, highest first -/
def be (k n : Nat) : List UInt8 := (dgs 256 k n).map UInt8.ofNat
theorem be_len (k n : Nat) : (be k n).length = k := by simp [be,dgs_len]
theorem be_succ (k n : Nat) : be (k + 1) n = be k (n / 256) ++ [UInt8.ofNat (n % 256)] := by simp [be,dgs]
theorem be_nat (k n : Nat) : (be k n).map UInt8.toNat = dgs 256 k n := by
 rw [be,List.map_map]
 conv => rhs;rw [← List.map_id (dgs 256 k n)]
 apply List.map_congr_left
 intro d hd
 have := dgs_lt 256 k (by omega) n d hd
 simp;omega
/-- the number that bytes say -/
def ofB (l : List UInt8) : Nat := ofD 256 (l.map UInt8.toNat)
theorem ofB_be (k n : Nat) (h : n < 256 ^ k) : ofB (be k n) = n := by rw [ofB,be_nat,ofD_dgs _ _ _ h]
theorem be_ofB (l : List UInt8) : be l.length (ofB l) = l := by
 have h : ∀ d ∈ l.map UInt8.toNat,d < 256 := by
  intro d hd
  obtain ⟨c,_,rfl⟩ := List.mem_map.1 hd
  exact c.toNat_lt
 have := dgs_ofD 256 (by omega) _ h
 rw [List.length_map] at this
 rw [be,ofB,this,List.map_map]
 conv => rhs;rw [← List.map_id l]
 apply List.map_congr_left
 intro c _
 simp
theorem ofB_snoc (l : List UInt8) (c : UInt8) : ofB (l ++ [c]) = ofB l * 256 + c.toNat := by simp [ofB,ofD]
theorem ofB_lt (l : List UInt8) : ofB l < 256 ^ l.length := by
 have := ofD_lt 256 (l.map UInt8.toNat) (by
  intro d hd
  obtain ⟨c,_,rfl⟩ := List.mem_map.1 hd
  exact c.toNat_lt)
 rwa [List.length_map] at this
/-! ### hexadecimal -/
def hexd (x : Nat) : UInt8 := if x < 10 then UInt8.ofNat (48 + x) else UInt8.ofNat (87 + x)
def hex4 (g : Nat) : List UInt8 := [hexd (g / 4096 % 16),hexd (g / 256 % 16),hexd (g / 16 % 16),hexd (g % 16)]
def hx (c : UInt8) : List UInt8 := [hexd (c.toNat / 16),hexd (c.toNat % 16)]
theorem hx_pair (a b : UInt8) : hx a ++ hx b = hex4 (a.toNat * 256 + b.toNat) := by
 have ha := a.toNat_lt
 have hb := b.toNat_lt
 simp only [hx,hex4,List.cons_append,List.nil_append]
 rw [show (a.toNat * 256 + b.toNat) / 4096 % 16 = a.toNat / 16 by omega,show (a.toNat * 256 + b.toNat) / 256 % 16 = a.toNat % 16 by omega,
  show (a.toNat * 256 + b.toNat) / 16 % 16 = b.toNat / 16 by omega,show (a.toNat * 256 + b.toNat) % 16 = b.toNat % 16 by omega]
/-- the value of a small hexadecimal digit, 16: it is none -/
def hexv (c : UInt8) : Nat := if 48 ≤ c.toNat ∧ c.toNat ≤ 57 then c.toNat - 48 else if 97 ≤ c.toNat ∧ c.toNat ≤ 102 then c.toNat - 87 else 16
theorem hexd_toNat (x : Nat) (h : x < 16) : (hexd x).toNat = if x < 10 then 48 + x else 87 + x := by
 unfold hexd;split <;> simp <;> omega
theorem hexv_hexd (x : Nat) (h : x < 16) : hexv (hexd x) = x := by
 unfold hexv;rw [hexd_toNat x h]
 by_cases h1 : x < 10
 ·rw [if_pos h1,if_pos (by omega)];omega
 ·rw [if_neg h1,if_neg (by omega),if_pos (by omega)];omega
theorem hexd_ne (x : Nat) (h : x < 16) : hexd x ≠ 58 ∧ hexd x ≠ 47 ∧ hexd x ≠ 46 := by
 refine ⟨?_,?_,?_⟩ <;> (intro e;have := congrArg UInt8.toNat e;rw [hexd_toNat x h] at this;simp at this;split at this <;> omega)
/-- the number that hexadecimal digits spell -/
def ofH (l : List UInt8) : Nat := ofD 16 (l.map hexv)
theorem ofH_hex4 (g : Nat) (h : g < 65536) : ofH (hex4 g) = g := by
 simp only [ofH,hex4,List.map_cons,List.map_nil]
 rw [hexv_hexd _ (by omega),hexv_hexd _ (by omega),hexv_hexd _ (by omega),hexv_hexd _ (by omega)]
 simp [ofD];omega
/-! ### cutting and joining -/
def split (s : UInt8) : List UInt8 → List (List UInt8)
 | [] => [[]]
 | c :: r => if c = s then [] :: split s r else match split s r with
  | [] => [[c]]
  | h :: t => (c :: h) :: t
theorem split_ne (s : UInt8) (l : List UInt8) : split s l ≠ [] := by
 cases l with
 | nil => simp [split]
 | cons c r =>
  rw [split];split
  ·simp
  ·split <;> simp
theorem split_one (s : UInt8) (l : List UInt8) (h : s ∉ l) : split s l = [l] := by
 induction l with
 | nil => rfl
 | cons c r ih =>
  rw [split,if_neg (by intro e;exact h (by simp [e])),ih (by intro e;exact h (by simp [e]))]
theorem split_cut (s : UInt8) (a r : List UInt8) (h : s ∉ a) : split s (a ++ s :: r) = a :: split s r := by
 induction a with
 | nil => rw [List.nil_append,split,if_pos rfl]
 | cons c a ih =>
  rw [List.cons_append,split,if_neg (by intro e;exact h (by simp [e])),ih (by intro e;exact h (by simp [e]))]
/-- parts with a byte between each two -/
def join (s : UInt8) : List (List UInt8) → List UInt8
 | [] => []
 | [a] => a
 | a :: b :: r => a ++ s :: join s (b :: r)
theorem split_join (s : UInt8) (l : List (List UInt8)) (hne : l ≠ []) (h : ∀ a ∈ l,s ∉ a) : split s (join s l) = l := by
 induction l with
 | nil => exact absurd rfl hne
 | cons a r ih =>
  cases r with
  | nil => exact split_one s a (h a (by simp))
  | cons b r =>
   rw [join,split_cut s a _ (h a (by simp)),ih (by simp) (fun x hx => h x (by simp [hx]))]
theorem join_split (s : UInt8) (l : List UInt8) : join s (split s l) = l := by
 induction l with
 | nil => rfl
 | cons c r ih =>
  rw [split]
  split
  ·rename_i e
   subst e
   cases hr : split c r with
   | nil => exact absurd hr (split_ne c r)
   | cons a t => rw [join,← hr,ih];rfl
  ·cases hr : split s r with
   | nil => exact absurd hr (split_ne s r)
   | cons a t =>
    rw [hr] at ih
    show join s ((c :: a) :: t) = c :: r
    cases t with
    | nil => rw [join] at ih ⊢;rw [ih]
    | cons b t => rw [join] at ih ⊢;rw [List.cons_append,ih]
theorem mem_join (s : UInt8) (l : List (List UInt8)) (c : UInt8) (h : c ∈ join s l) : c = s ∨ ∃ a ∈ l,c ∈ a := by
 induction l with
 | nil => simp [join] at h
 | cons a r ih =>
  cases r with
  | nil => rw [join] at h;exact .inr ⟨a,by simp,h⟩
  | cons b r =>
   rw [join,List.mem_append,List.mem_cons] at h
   rcases h with h | h | h
   ·exact .inr ⟨a,by simp,h⟩
   ·exact .inl h
   ·rcases ih h with h | ⟨x,hx,hc⟩
    ·exact .inl h
    ·exact .inr ⟨x,by simp [hx],hc⟩
/-! ### an address's text; an address as its family and its number -/
def okA (f : Int) (n : Nat) : Bool := (decide (f = 6) && decide (n < 340282366920938463463374607431768211456)) || (decide (f = 4) && decide (n < 4294967296))
theorem okA_iff (f : Int) (n : Nat) : okA f n = true ↔ (f = 6 ∧ n < 340282366920938463463374607431768211456) ∨ (f = 4 ∧ n < 4294967296) := by simp [okA]
def prA (f : Int) (n : Nat) : List UInt8 :=
 if okA f n = true then (if f = 4 then join 46 ((dgs 256 4 n).map decDigits) else join 58 ((dgs 65536 8 n).map hex4)) else []
theorem prA_4 (n : Nat) (h : n < 4294967296) : prA 4 n = join 46 ((dgs 256 4 n).map decDigits) := by
 have : okA 4 n = true := by rw [okA_iff];exact .inr ⟨rfl,h⟩
 simp [prA,this]
theorem prA_6 (n : Nat) (h : n < 340282366920938463463374607431768211456) : prA 6 n = join 58 ((dgs 65536 8 n).map hex4) := by
 have : okA 6 n = true := by rw [okA_iff];exact .inl ⟨rfl,h⟩
 simp [prA,this]
theorem dec_no {c : UInt8} (hc : isDig c = false) (u : Nat) : c ∉ decDigits u := by
 intro h;rw [decDigits_dig u c h] at hc;cases hc
theorem split_4 (n : Nat) (h : n < 4294967296) : split 46 (prA 4 n) = (dgs 256 4 n).map decDigits := by
 rw [prA_4 n h]
 apply split_join
 ·intro e;have := congrArg List.length e;simp [dgs_len] at this
 ·intro a ha
  obtain ⟨d,_,rfl⟩ := List.mem_map.1 ha
  exact dec_no rfl d
theorem hex4_no {c : UInt8} (h1 : c = 58 ∨ c = 47 ∨ c = 46) (g : Nat) : c ∉ hex4 g := by
 intro h
 simp only [hex4,List.mem_cons,List.not_mem_nil,or_false] at h
 have k1 := hexd_ne (g / 4096 % 16) (by omega)
 have k2 := hexd_ne (g / 256 % 16) (by omega)
 have k3 := hexd_ne (g / 16 % 16) (by omega)
 have k4 := hexd_ne (g % 16) (by omega)
 rcases h1 with rfl | rfl | rfl <;> rcases h with h | h | h | h <;> simp_all
theorem split_6 (n : Nat) (h : n < 340282366920938463463374607431768211456) : split 58 (prA 6 n) = (dgs 65536 8 n).map hex4 := by
 rw [prA_6 n h]
 apply split_join
 ·intro e;have := congrArg List.length e;simp [dgs_len] at this
 ·intro a ha
  obtain ⟨d,_,rfl⟩ := List.mem_map.1 ha
  exact hex4_no (.inl rfl) d
theorem no_colon_4 (n : Nat) (h : n < 4294967296) : (58 : UInt8) ∉ prA 4 n := by
 rw [prA_4 n h]
 intro hc
 rcases mem_join _ _ _ hc with e | ⟨a,ha,hc⟩
 ·exact absurd e (by decide)
 ·obtain ⟨d,_,rfl⟩ := List.mem_map.1 ha
  exact dec_no rfl d hc
theorem colon_6 (n : Nat) (h : n < 340282366920938463463374607431768211456) : (58 : UInt8) ∈ prA 6 n := by
 rw [prA_6 n h]
 have : ∀ l : List Nat,2 ≤ l.length → (58 : UInt8) ∈ join 58 (l.map hex4) := by
  intro l hl
  match l,hl with
  | a :: b :: r,_ => simp [join]
 exact this _ (by rw [dgs_len];omega)
theorem ofD_dec (l : List Nat) : (l.map decDigits).map (valA 0) = l := by
 rw [List.map_map]
 conv => rhs;rw [← List.map_id l]
 apply List.map_congr_left
 intro d _
 exact decDigits_val d
theorem ofD_hex (l : List Nat) (h : ∀ d ∈ l,d < 65536) : (l.map hex4).map ofH = l := by
 rw [List.map_map]
 conv => rhs;rw [← List.map_id l]
 apply List.map_congr_left
 intro d hd
 exact ofH_hex4 d (h d hd)
theorem prA_inj {f f' : Int} {n n' : Nat} (h : okA f n = true) (h' : okA f' n' = true) (e : prA f n = prA f' n') : f = f' ∧ n = n' := by
 rw [okA_iff] at h h'
 rcases h with ⟨rfl,h⟩ | ⟨rfl,h⟩ <;> rcases h' with ⟨rfl,h'⟩ | ⟨rfl,h'⟩
 ·refine ⟨rfl,?_⟩
  have := congrArg (fun t => ofD 65536 ((split 58 t).map ofH)) e
  simp only [split_6 _ h,split_6 _ h'] at this
  rw [ofD_hex _ (dgs_lt 65536 8 (by omega) n),ofD_hex _ (dgs_lt 65536 8 (by omega) n'),ofD_dgs _ _ _ h,ofD_dgs _ _ _ h'] at this
  exact this
 ·exact absurd (e ▸ colon_6 n h) (no_colon_4 n' h')
 ·exact absurd (e ▸ colon_6 n' h') (no_colon_4 n h)
 ·refine ⟨rfl,?_⟩
  have := congrArg (fun t => ofD 256 ((split 46 t).map (valA 0))) e
  simp only [split_4 _ h,split_4 _ h'] at this
  rw [ofD_dec,ofD_dec,ofD_dgs _ _ _ h,ofD_dgs _ _ _ h'] at this
  exact this
open Classical in
/-- the address that a text says, if it says one -/
noncomputable def prsA (t : List UInt8) : Option (Int × Nat) :=
 if h : ∃ p : Int × Nat,okA p.1 p.2 = true ∧ prA p.1 p.2 = t then some h.choose else none
theorem prsA_some {t : List UInt8} {f : Int} {n : Nat} (h : prsA t = some (f,n)) : okA f n = true ∧ prA f n = t := by
 unfold prsA at h
 split at h
 ·rename_i hx
  have := hx.choose_spec
  injection h with h
  rw [h] at this
  exact this
 ·cases h
theorem prsA_prt {f : Int} {n : Nat} (h : okA f n = true) : prsA (prA f n) = some (f,n) := by
 unfold prsA
 split
 ·rename_i hx
  have hc := hx.choose_spec
  have := prA_inj hc.1 h hc.2
  rw [show hx.choose = (f,n) from Prod.ext this.1 this.2]
 ·rename_i hx
  exact absurd ⟨(f,n),h,rfl⟩ hx
theorem prsA_none {t : List UInt8} (h : ∀ f n,okA f n = true → prA f n = t → False) : prsA t = none := by
 cases e : prsA t with
 | none => rfl
 | some p => obtain ⟨a,b⟩ := prsA_some (f := p.1) (n := p.2) e;exact (h _ _ a b).elim
/-! ### a prefix's text -/
def okP (f : Int) (n : Nat) (b : Int) : Bool := okA f n && (decide (0 ≤ b) && (decide (b ≤ (wid f : Int)) && decide (n % 2 ^ (wid f - b.toNat) = 0)))
theorem okP_iff (f : Int) (n : Nat) (b : Int) : okP f n b = true ↔ okA f n = true ∧ 0 ≤ b ∧ b ≤ (wid f : Int) ∧ n % 2 ^ (wid f - b.toNat) = 0 := by simp [okP]
def prP (f : Int) (n : Nat) (b : Int) : List UInt8 := if okP f n b = true then prA f n ++ 47 :: decDigits b.toNat else []
theorem slash_no (f : Int) (n : Nat) : (47 : UInt8) ∉ prA f n := by
 unfold prA
 split
 ·split
  ·intro hc
   rcases mem_join _ _ _ hc with e | ⟨a,ha,hc⟩
   ·exact absurd e (by decide)
   ·obtain ⟨d,_,rfl⟩ := List.mem_map.1 ha
    exact dec_no rfl d hc
  ·intro hc
   rcases mem_join _ _ _ hc with e | ⟨a,ha,hc⟩
   ·exact absurd e (by decide)
   ·obtain ⟨d,_,rfl⟩ := List.mem_map.1 ha
    exact hex4_no (.inr (.inl rfl)) d hc
 ·simp
theorem prP_of {f : Int} {n : Nat} {b : Int} (h : okP f n b = true) : prP f n b = prA f n ++ 47 :: decDigits b.toNat := by simp [prP,h]
theorem prP_split {f : Int} {n : Nat} {b : Int} (h : okP f n b = true) : split 47 (prP f n b) = [prA f n,decDigits b.toNat] := by
 rw [prP_of h,split_cut _ _ _ (slash_no f n),split_one _ _ (dec_no rfl _)]
theorem prP_inj {f f' : Int} {n n' : Nat} {b b' : Int} (h : okP f n b = true) (h' : okP f' n' b' = true) (e : prP f n b = prP f' n' b') : f = f' ∧ n = n' ∧ b = b' := by
 have := congrArg (split 47) e
 rw [prP_split h,prP_split h'] at this
 injection this with e1 e2
 injection e2 with e2 _
 have h1 := (okP_iff _ _ _).1 h
 have h2 := (okP_iff _ _ _).1 h'
 obtain ⟨a,c⟩ := prA_inj h1.1 h2.1 e1
 have := congrArg (valA 0) e2
 rw [decDigits_val,decDigits_val] at this
 exact ⟨a,c,by omega⟩
open Classical in
noncomputable def prsP (t : List UInt8) : Option (Int × Nat × Int) :=
 if h : ∃ p : Int × Nat × Int,okP p.1 p.2.1 p.2.2 = true ∧ prP p.1 p.2.1 p.2.2 = t then some h.choose else none
theorem prsP_some {t : List UInt8} {f : Int} {n : Nat} {b : Int} (h : prsP t = some (f,n,b)) : okP f n b = true ∧ prP f n b = t := by
 unfold prsP at h
 split at h
 ·rename_i hx
  have := hx.choose_spec
  injection h with h
  rw [h] at this
  exact this
 ·cases h
theorem prsP_prt {f : Int} {n : Nat} {b : Int} (h : okP f n b = true) : prsP (prP f n b) = some (f,n,b) := by
 unfold prsP
 split
 ·rename_i hx
  have hc := hx.choose_spec
  have := prP_inj hc.1 h hc.2
  rw [show hx.choose = (f,n,b) from Prod.ext this.1 (Prod.ext this.2.1 this.2.2)]
 ·rename_i hx
  exact absurd ⟨(f,n,b),h,rfl⟩ hx
theorem prsP_none {t : List UInt8} (h : ∀ f n b,okP f n b = true → prP f n b = t → False) : prsP t = none := by
 cases e : prsP t with
 | none => rfl
 | some p => obtain ⟨a,b⟩ := prsP_some (f := p.1) (n := p.2.1) (b := p.2.2) e;exact (h _ _ _ a b).elim
/-! ### lengths -/
theorem join_len (s : UInt8) (l : List (List UInt8)) (k : Nat) (h : ∀ a ∈ l,a.length ≤ k) : (join s l).length ≤ l.length * (k + 1) := by
 induction l with
 | nil => simp [join]
 | cons a r ih =>
  cases r with
  | nil => rw [join];have := h a (by simp);simp;omega
  | cons b r =>
   have h1 := h a (by simp)
   have h2 := ih (fun x hx => h x (by simp [hx]))
   rw [join,List.length_append,List.length_cons,List.length_cons,Nat.succ_mul]
   simp only [List.length_cons] at h2 ⊢
   omega
theorem join_len1 (s : UInt8) (l : List (List UInt8)) (k : Nat) (hne : l ≠ []) (h : ∀ a ∈ l,a.length ≤ k) : (join s l).length + 1 ≤ l.length * (k + 1) := by
 induction l with
 | nil => exact absurd rfl hne
 | cons a r ih =>
  cases r with
  | nil => rw [join];have := h a (by simp);simp;omega
  | cons b r =>
   have h1 := h a (by simp)
   have h2 := ih (by simp) (fun x hx => h x (by simp [hx]))
   rw [join,List.length_append,List.length_cons,List.length_cons,Nat.succ_mul]
   simp only [List.length_cons] at h2 ⊢
   omega
theorem prA_len (f : Int) (n : Nat) : (prA f n).length ≤ 39 := by
 unfold prA
 split
 ·split
  ·have := join_len1 46 ((dgs 256 4 n).map decDigits) 3 (by intro e;have := congrArg List.length e;simp [dgs_len] at this) (by
    intro a ha
    obtain ⟨d,hd,rfl⟩ := List.mem_map.1 ha
    have := dgs_lt 256 4 (by omega) n d hd
    exact decDigits_len_le 3 d (by omega) (by omega))
   rw [List.length_map,dgs_len] at this
   omega
  ·have := join_len1 58 ((dgs 65536 8 n).map hex4) 4 (by intro e;have := congrArg List.length e;simp [dgs_len] at this) (by
    intro a ha
    obtain ⟨d,hd,rfl⟩ := List.mem_map.1 ha
    exact Nat.le_refl _)
   rw [List.length_map,dgs_len] at this
   omega
 ·simp
theorem prP_len (f : Int) (n : Nat) (b : Int) : (prP f n b).length ≤ 43 := by
 unfold prP
 split
 ·rename_i h
  have h1 := (okP_iff _ _ _).1 h
  have h2 := prA_len f n
  have hw : wid f ≤ 128 := by unfold wid;split <;> (try split) <;> omega
  have h3 := decDigits_len_le 3 b.toNat (by omega) (by omega)
  simp;omega
 ·simp
theorem prA_ne {f : Int} {n : Nat} (h : okA f n = true) : prA f n ≠ [] := by
 rw [okA_iff] at h
 rcases h with ⟨rfl,h⟩ | ⟨rfl,h⟩
 ·intro e;have := colon_6 n h;rw [e] at this;simp at this
 ·intro e
  have := split_4 n h
  rw [e] at this
  have := congrArg List.length this
  simp [dgs_len,split] at this
end Go.Proofs.YtpkmekdpmkfcdaaGreatDoor.Px
