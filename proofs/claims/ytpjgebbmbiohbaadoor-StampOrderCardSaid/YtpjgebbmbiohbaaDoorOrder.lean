/- The walk of StampOrder, first part: three stamps, taken as the statements take them, in a new list. -/
import Derived.Test.YtpjgebbmbiohbaaDoorStampK
import Derived.Deep.RegionHeld3
import Derived.Deep.DeepCutAuto
import Derived.StillTailTactics
namespace Go.Proofs.YtpjgebbmbiohbaaDoor.St
open Go.RowKit Go.Proofs.YtpjgebbmbiohbaaDoor.Wd Go.Proofs.YtpjgebbmbiohbaaDoor.Pl Go.Proofs.YtpjgebbmbiohbaaDoor.Px Go.Proofs.YtpjgebbmbiohbaaDoor.En Go.Proofs.YtpjgebbmbiohbaaDoor.By

/-- the i-th of three -/
def pk (a c e : Int) (i : Nat) : Int := if i = 0 then a else if i = 1 then c else e
/-- three stamps from a block's first cell on -/
def L3 (w : World) (G : Nat) (S N : Nat → Int) : Prop := ∀ i, i < 3 → w.cell? ⟨G, i * 2, none⟩ = some (.int .i64 (S i)) ∧ w.cell? ⟨G, i * 2 + 1, none⟩ = some (.int .i64 (N i))
theorem l3_new (w : World) (a b c d e f : Int) (t : TypeId) : L3 (w.alloc (.cells #[.int .i64 a, .int .i64 b, .int .i64 c, .int .i64 d, .int .i64 e, .int .i64 f] t)) w.heap.size (pk a c e) (pk b d f) := by
  intro i hi
  rcases (by omega : i = 0 ∨ i = 1 ∨ i = 2) with rfl | rfl | rfl
  all_goals exact ⟨by rw [World.cell?_alloc_at _ _ _ _ rfl]; rfl, by rw [World.cell?_alloc_at _ _ _ _ rfl]; rfl⟩
def mm (S N : Nat → Int) (i k : Nat) : Bool := lss (S i) (N i) (S k) (N k)
def Vs (S N : Nat → Int) : Prop := ∀ i, i < 3 → 0 ≤ S i ∧ S i ≤ 9223372036854775807 ∧ 0 ≤ N i ∧ N i ≤ 999999999
theorem vs_pk {a b c d e f : Int} (h1 : 0 ≤ a ∧ a ≤ 9223372036854775807 ∧ 0 ≤ b ∧ b ≤ 999999999) (h2 : 0 ≤ c ∧ c ≤ 9223372036854775807 ∧ 0 ≤ d ∧ d ≤ 999999999) (h3 : 0 ≤ e ∧ e ≤ 9223372036854775807 ∧ 0 ≤ f ∧ f ≤ 999999999) : Vs (pk a c e) (pk b d f) := by
  intro i hi
  rcases (by omega : i = 0 ∨ i = 1 ∨ i = 2) with rfl | rfl | rfl
  · exact h1
  · exact h2
  · exact h3

/-- bytes of one length stand in the order of what they say -/
theorem lt8_ofB (l : List UInt8) : ∀ m : List UInt8, l.length = m.length → lt8 l m = decide (ofB l < ofB m) := by
  have hcons : ∀ (c : UInt8) (l : List UInt8), ofB (c :: l) = c.toNat * 256 ^ l.length + ofB l := by
    intro c l
    have := snoc_ind (P := fun l => ofB (c :: l) = c.toNat * 256 ^ l.length + ofB l) (by simp [ofB, ofD]) (fun l d ih => by
      rw [← List.cons_append, ofB_snoc, ofB_snoc, ih, List.length_append, List.length_singleton, Nat.pow_succ]
      rw [Nat.add_mul, Nat.mul_assoc, Nat.add_assoc]) l
    exact this
  induction l with
  | nil => intro m h; cases m with
    | nil => rfl
    | cons b m => simp at h
  | cons a l ih =>
    intro m h
    cases m with
    | nil => simp at h
    | cons b m =>
      have h' : l.length = m.length := by simpa using h
      rw [lt8, hcons, hcons, h']
      have h1 := ofB_lt l
      have h2 := ofB_lt m
      rw [h'] at h1
      by_cases e : a = b
      · rw [if_pos e, ih m h', e]
        congr 1
        simp
      · rw [if_neg e]
        have hne : a.toNat ≠ b.toNat := fun h => e (UInt8.toNat_inj.1 h)
        by_cases hlt : a.toNat < b.toNat
        · have : (a.toNat + 1) * 256 ^ m.length ≤ b.toNat * 256 ^ m.length := Nat.mul_le_mul_right _ hlt
          rw [Nat.add_mul] at this
          rw [decide_eq_true hlt, decide_eq_true (by omega)]
        · have : (b.toNat + 1) * 256 ^ m.length ≤ a.toNat * 256 ^ m.length := Nat.mul_le_mul_right _ (by omega)
          rw [Nat.add_mul] at this
          rw [decide_eq_false hlt, decide_eq_false (by omega)]
theorem ofB_lb {s n : Int} (h : vld s n = true) (hs : s ≤ 9223372036854775807) : ofB (lb s n) = s.toNat * 4294967296 + n.toNat := by
  have hv := (vld_iff s n).1 h
  rw [lb_yes h]
  have happ : ∀ (l m : List UInt8), ofB (l ++ m) = ofB l * 256 ^ m.length + ofB m := by
    intro l m
    exact snoc_ind (P := fun m => ofB (l ++ m) = ofB l * 256 ^ m.length + ofB m) (by simp [ofB, ofD]) (fun m d ih => by
      rw [← List.append_assoc, ofB_snoc, ofB_snoc, ih, List.length_append, List.length_singleton, Nat.pow_succ, Nat.add_mul, Nat.mul_assoc, Nat.add_assoc]) m
  rw [happ, be_len, ofB_be _ _ (by omega), ofB_be _ _ (by omega)]
theorem lt8_lb {a b c d : Int} (h : vld a b = true) (ha : a ≤ 9223372036854775807) (h' : vld c d = true) (hc : c ≤ 9223372036854775807) : lt8 (lb a b) (lb c d) = lss a b c d := by
  have hv := (vld_iff a b).1 h
  have hv' := (vld_iff c d).1 h'
  rw [lt8_ofB _ _ (by rw [lb_len h, lb_len h']), ofB_lb h ha, ofB_lb h' hc, Bool.eq_iff_iff, decide_eq_true_iff]
  simp [lss]
  omega
theorem mm_sam {S N : Nat → Int} (i k : Nat) : Is (sam (S i) (N i) (S k) (N k) && mm S N i k) false := by
  unfold Is mm
  rw [← Bool.not_eq_true]
  simp [sam, lss]
  omega
theorem mm_tot {S N : Nat → Int} (i k : Nat) : Is (!sam (S i) (N i) (S k) (N k) && (mm S N i k == mm S N k i)) false := by
  unfold Is mm
  cases h : sam (S i) (N i) (S k) (N k)
  · have : (lss (S i) (N i) (S k) (N k) == lss (S k) (N k) (S i) (N i)) = false := by
      rw [beq_eq_false_iff_ne]
      intro e
      rw [Bool.eq_iff_iff] at e
      rw [← Bool.not_eq_true] at h
      simp [sam] at h
      simp [lss] at e
      omega
    simpa using this
  · rfl
theorem mm_trans {S N : Nat → Int} (i k m : Nat) : Is (mm S N i k && (mm S N k m && !mm S N i m)) false := by
  unfold Is mm
  rw [← Bool.not_eq_true]
  simp [lss]
  omega

/-- the list, and the table as far as it is filled -/
structure Ord (w wr : World) (G L : Nat) (S N : Nat → Int) (p q : Nat) : Prop where
  l : L3 wr G S N
  fr : ∀ o, wr.frozen? ⟨L, o, none⟩ = false
  m : ∀ i k, i < 3 → k < 3 → wr.cell? ⟨L, i * 3 + k, none⟩ = some (.bool (if i < p ∨ (i = p ∧ k < q) then mm S N i k else false))
  ll : L < wr.heap.size
  gl : G < L
  wl : w.heap.size ≤ G
  bl : Below w.heap.size w wr
theorem Ord.on {w wr w' : World} {G L p q : Nat} {S N : Nat → Int} (h : Ord w wr G L S N p q) (hb : Below wr.heap.size wr w') : Ord w w' G L S N p q :=
  ⟨fun i hi => ⟨keepc hb (h.l i hi).1, keepc hb (h.l i hi).2⟩, keepf hb h.ll h.fr, fun i k hi hk => keepc hb (h.m i k hi hk), Nat.lt_of_lt_of_le h.ll hb.size, h.gl, h.wl, h.bl.trans (hb.mono h.bl.size)⟩
theorem Ord.drew {w wr : World} {G L p q : Nat} {S N : Nat → Int} (h : Ord w wr G L S N p q) : Ord w wr.drew G L S N p q := h.on (Below.refl _ _).drew
theorem Ord.put {w wr : World} {G L p q : Nat} {S N : Nat → Int} (h : Ord w wr G L S N p q) (hp : p < 3) (hq : q < 3) : Ord w (wr.setCell ⟨L, p * 3 + q, none⟩ (.bool (mm S N p q))) G L S N p (q + 1) := by
  have hGL : L ≠ G := by have := h.gl; omega
  refine ⟨fun i hi => ⟨(World.cell?_setCell_far _ _ _ _ hGL).trans (h.l i hi).1, (World.cell?_setCell_far _ _ _ _ hGL).trans (h.l i hi).2⟩, fun o => by rw [World.frozen?_setCell]; exact h.fr o, fun i k hi hk => ?_, by simpa using h.ll, h.gl, h.wl, h.bl.setCell (by show w.heap.size ≤ L; have := h.gl; have := h.wl; omega) _⟩
  by_cases e : i = p ∧ k = q
  · obtain ⟨rfl, rfl⟩ := e
    rw [World.cell?_setCell_same' _ _ _ (by rw [h.m i k hi hk]; rfl), if_pos (.inr ⟨rfl, by omega⟩)]
  · refine (World.cell?_setCell_other _ _ _ _ (fun e2 => ?_)).trans ((h.m i k hi hk).trans ?_)
    · injection e2 with _ e3
      exact e (by omega)
    · congr 2
      by_cases c : i < p ∨ (i = p ∧ k < q)
      · rw [if_pos c, if_pos (by omega)]
      · rw [if_neg c, if_neg (by omega)]
theorem Ord.row {w wr : World} {G L p : Nat} {S N : Nat → Int} (h : Ord w wr G L S N p 3) : Ord w wr G L S N (p + 1) 0 :=
  ⟨h.l, h.fr, fun i k hi hk => (h.m i k hi hk).trans (by
    congr 2
    by_cases c : i < p ∨ (i = p ∧ k < 3)
    · rw [if_pos c, if_pos (by omega)]
    · rw [if_neg c, if_neg (by omega)]), h.ll, h.gl, h.wl, h.bl⟩
theorem ord_new {w W : World} {G : Nat} {S N : Nat → Int} (hL : L3 W G S N) (hG : w.heap.size ≤ G) (hG2 : G < W.heap.size) (hb : Below w.heap.size w W) (t : TypeId) :
    Ord w (W.alloc (.cells #[.bool false, .bool false, .bool false, .bool false, .bool false, .bool false, .bool false, .bool false, .bool false] t)) G W.heap.size S N 0 0 := by
  refine ⟨fun i hi => ⟨keepc (one W _) (hL i hi).1, keepc (one W _) (hL i hi).2⟩, fun o => by rw [World.frozen?_alloc_at _ _ _ _ rfl], fun i k hi hk => ?_, by simp, hG2, hG, hb.alloc hb.size _⟩
  rw [World.cell?_alloc_at _ _ _ _ rfl, if_neg (by omega)]
  rcases (by omega : i = 0 ∨ i = 1 ∨ i = 2) with rfl | rfl | rfl
  all_goals rcases (by omega : k = 0 ∨ k = 1 ∨ k = 2) with rfl | rfl | rfl
  all_goals rfl
theorem put12 {s n : Int} {x : List UInt8} (h : Is (lb s n) x) (hx : x.length = 12) (w : World) (h0 : s ≤ 9223372036854775807) :
    Calls Tryd.prog 21 #[.agg #[.int .i64 s, .int .i64 n]] w fun e w' => ∃ A c, e = .returned (.slice A 12 c) ∧ Shows cel w' w'.heap.size A x ∧ Below w.heap.size w w' := by
  have := put_as h w h0
  rwa [hx] at this
theorem less12 {x y : List UInt8} {v : Bool} (hx : x.length = 12) (hy : y.length = 12) (h : Is (lt8 x y) v) (A B : Option Addr) (c d : Nat) (w : World) (ha : Shows cel w w.heap.size A x) (hb : Shows cel w w.heap.size B y) :
    Calls Tryd.prog 33 #[.slice A 12 c, .slice B 12 d] w fun e w' => e = .returned (.bool v) ∧ Below w.heap.size w w' := by
  have := By.less_any x y A B c d w (by omega) ha hb
  rw [show lt8 x y = v from h, hx, hy] at this
  exact this
theorem um {U M : Bool} (h : Is (U && M) false) : M = false ∨ M = true ∧ U = false := by
  cases M
  · exact .inl rfl
  · cases U
    · exact .inr ⟨rfl, rfl⟩
    · cases h
/-- the table -/
def Tab (w : World) (L : Nat) (S N : Nat → Int) : Prop := ∀ i k, i < 3 → k < 3 → w.cell? ⟨L, i * 3 + k, none⟩ = some (.bool (mm S N i k))
theorem tr {a b c : Bool} (h : Is (a && (b && !c)) false) : a = false ∨ a = true ∧ (b = false ∨ b = true ∧ c = true) := by
  cases a
  · exact .inl rfl
  · cases b
    · exact .inr ⟨rfl, .inl rfl⟩
    · cases c
      · cases h
      · exact .inr ⟨rfl, .inr ⟨rfl, rfl⟩⟩
def vat (W : World) (a : Addr) : Value := (W.cell? a).getD (.bool false)
theorem vat_of {W : World} {a : Addr} {v : Value} (h : W.cell? a = some v) : W.cell? a = some (vat W a) := by unfold vat; rw [h]; rfl
theorem conj_on {W W' : World} {G L p q : Nat} {S N : Nat → Int} (h : W.cell? ⟨G, p * 2, none⟩ = some (.int .i64 (S p)) ∧ W.cell? ⟨G, p * 2 + 1, none⟩ = some (.int .i64 (N p)) ∧ W.cell? ⟨G, q * 2, none⟩ = some (.int .i64 (S q)) ∧ W.cell? ⟨G, q * 2 + 1, none⟩ = some (.int .i64 (N q)) ∧ W.frozen? ⟨L, p * 3 + q, none⟩ = false ∧ W.cell? ⟨L, p * 3 + q, none⟩ = some (vat W ⟨L, p * 3 + q, none⟩) ∧ L ≠ G) (hb : Below W.heap.size W W') : W'.cell? ⟨G, p * 2, none⟩ = some (.int .i64 (S p)) ∧ W'.cell? ⟨G, p * 2 + 1, none⟩ = some (.int .i64 (N p)) ∧ W'.cell? ⟨G, q * 2, none⟩ = some (.int .i64 (S q)) ∧ W'.cell? ⟨G, q * 2 + 1, none⟩ = some (.int .i64 (N q)) ∧ W'.frozen? ⟨L, p * 3 + q, none⟩ = false ∧ W'.cell? ⟨L, p * 3 + q, none⟩ = some (vat W' ⟨L, p * 3 + q, none⟩) ∧ L ≠ G := by
  obtain ⟨h1, h2, h3, h4, h5, h6, h7⟩ := h
  exact ⟨keepc hb h1, keepc hb h2, keepc hb h3, keepc hb h4, (hb.frozen (p := ⟨L, p * 3 + q, none⟩) (World.block_lt_of_cell? W _ h6)).trans h5, vat_of (keepc hb h6), h7⟩
theorem conj_set {W : World} {G L p q : Nat} {S N : Nat → Int} (h : W.cell? ⟨G, p * 2, none⟩ = some (.int .i64 (S p)) ∧ W.cell? ⟨G, p * 2 + 1, none⟩ = some (.int .i64 (N p)) ∧ W.cell? ⟨G, q * 2, none⟩ = some (.int .i64 (S q)) ∧ W.cell? ⟨G, q * 2 + 1, none⟩ = some (.int .i64 (N q)) ∧ W.frozen? ⟨L, p * 3 + q, none⟩ = false ∧ W.cell? ⟨L, p * 3 + q, none⟩ = some (vat W ⟨L, p * 3 + q, none⟩) ∧ L ≠ G) (v : Value) : (W.setCell ⟨L, p * 3 + q, none⟩ v).cell? ⟨G, p * 2, none⟩ = some (.int .i64 (S p)) ∧ (W.setCell ⟨L, p * 3 + q, none⟩ v).cell? ⟨G, p * 2 + 1, none⟩ = some (.int .i64 (N p)) ∧ (W.setCell ⟨L, p * 3 + q, none⟩ v).cell? ⟨G, q * 2, none⟩ = some (.int .i64 (S q)) ∧ (W.setCell ⟨L, p * 3 + q, none⟩ v).cell? ⟨G, q * 2 + 1, none⟩ = some (.int .i64 (N q)) ∧ (W.setCell ⟨L, p * 3 + q, none⟩ v).frozen? ⟨L, p * 3 + q, none⟩ = false ∧ (W.setCell ⟨L, p * 3 + q, none⟩ v).cell? ⟨L, p * 3 + q, none⟩ = some (vat (W.setCell ⟨L, p * 3 + q, none⟩ v) ⟨L, p * 3 + q, none⟩) ∧ L ≠ G := by
  obtain ⟨h1, h2, h3, h4, h5, h6, h7⟩ := h
  exact ⟨(World.cell?_setCell_far _ _ _ _ h7).trans h1, (World.cell?_setCell_far _ _ _ _ h7).trans h2, (World.cell?_setCell_far _ _ _ _ h7).trans h3, (World.cell?_setCell_far _ _ _ _ h7).trans h4, by rw [World.frozen?_setCell]; exact h5, vat_of (World.cell?_setCell_same' _ _ _ (by rw [h6]; rfl)), h7⟩
theorem conj_of {w W : World} {G L p q : Nat} {S N : Nat → Int} (h : Ord w W G L S N p q) (hp : p < 3) (hq : q < 3) : W.cell? ⟨G, p * 2, none⟩ = some (.int .i64 (S p)) ∧ W.cell? ⟨G, p * 2 + 1, none⟩ = some (.int .i64 (N p)) ∧ W.cell? ⟨G, q * 2, none⟩ = some (.int .i64 (S q)) ∧ W.cell? ⟨G, q * 2 + 1, none⟩ = some (.int .i64 (N q)) ∧ W.frozen? ⟨L, p * 3 + q, none⟩ = false ∧ W.cell? ⟨L, p * 3 + q, none⟩ = some (vat W ⟨L, p * 3 + q, none⟩) ∧ L ≠ G :=
  ⟨(h.l p hp).1, (h.l p hp).2, (h.l q hq).1, (h.l q hq).2, h.fr _, vat_of (h.m p q hp hq), by have := h.gl; omega⟩
theorem keepb {w W w' : World} (hb : Below W.heap.size W w') (h : Below w.heap.size w W) : Below w.heap.size w w' := h.trans (hb.mono h.size)

theorem keepS {w W w' : World} {s n t m u v : Int} (h : W.cell? ⟨w.heap.size, 0, none⟩ = some (.int .i64 s) ∧ W.cell? ⟨w.heap.size, 1, none⟩ = some (.int .i64 n) ∧ W.cell? ⟨w.heap.size + 1, 0, none⟩ = some (.int .i64 t) ∧ W.cell? ⟨w.heap.size + 1, 1, none⟩ = some (.int .i64 m) ∧ W.cell? ⟨w.heap.size + 2, 0, none⟩ = some (.int .i64 u) ∧ W.cell? ⟨w.heap.size + 2, 1, none⟩ = some (.int .i64 v) ∧ Below w.heap.size w W) (hb : Below W.heap.size W w') : w'.cell? ⟨w.heap.size, 0, none⟩ = some (.int .i64 s) ∧ w'.cell? ⟨w.heap.size, 1, none⟩ = some (.int .i64 n) ∧ w'.cell? ⟨w.heap.size + 1, 0, none⟩ = some (.int .i64 t) ∧ w'.cell? ⟨w.heap.size + 1, 1, none⟩ = some (.int .i64 m) ∧ w'.cell? ⟨w.heap.size + 2, 0, none⟩ = some (.int .i64 u) ∧ w'.cell? ⟨w.heap.size + 2, 1, none⟩ = some (.int .i64 v) ∧ Below w.heap.size w w' := by
  obtain ⟨h1, h2, h3, h4, h5, h6, h7⟩ := h
  exact ⟨keepc hb h1, keepc hb h2, keepc hb h3, keepc hb h4, keepc hb h5, keepc hb h6, keepb hb h7⟩
theorem keepA {w W : World} {s n t m u v : Int} (h : W.cell? ⟨w.heap.size, 0, none⟩ = some (.int .i64 s) ∧ W.cell? ⟨w.heap.size, 1, none⟩ = some (.int .i64 n) ∧ W.cell? ⟨w.heap.size + 1, 0, none⟩ = some (.int .i64 t) ∧ W.cell? ⟨w.heap.size + 1, 1, none⟩ = some (.int .i64 m) ∧ W.cell? ⟨w.heap.size + 2, 0, none⟩ = some (.int .i64 u) ∧ W.cell? ⟨w.heap.size + 2, 1, none⟩ = some (.int .i64 v) ∧ Below w.heap.size w W) (o : Obj) : (W.alloc o).cell? ⟨w.heap.size, 0, none⟩ = some (.int .i64 s) ∧ (W.alloc o).cell? ⟨w.heap.size, 1, none⟩ = some (.int .i64 n) ∧ (W.alloc o).cell? ⟨w.heap.size + 1, 0, none⟩ = some (.int .i64 t) ∧ (W.alloc o).cell? ⟨w.heap.size + 1, 1, none⟩ = some (.int .i64 m) ∧ (W.alloc o).cell? ⟨w.heap.size + 2, 0, none⟩ = some (.int .i64 u) ∧ (W.alloc o).cell? ⟨w.heap.size + 2, 1, none⟩ = some (.int .i64 v) ∧ Below w.heap.size w (W.alloc o) := keepS h (one W o)

set_option maxRecDepth 20000 in
set_option maxHeartbeats 4000000 in
theorem order_law (s n t m u v a b c d e f : Int) (w : World) (hE : Env w) (hf : Fits s n a b) (hg : Fits t m c d) (hh : Fits u v e f) :
    Calls Tryd.prog 9 #[.agg #[.int .i64 s, .int .i64 n], .agg #[.int .i64 t, .int .i64 m], .agg #[.int .i64 u, .int .i64 v]] w fun e w' => e = .returned (.bool true) ∧ Below w.heap.size w w' := by
  go_enter Tryd.func9, Tryd.ntmps9
  have E0 := hE.on ((((Below.refl _ w).alloc (by exact Nat.le_refl _) (.cells #[.int .i64 s, .int .i64 n] 23)).alloc (by simp) (.cells #[.int .i64 t, .int .i64 m] 23)).alloc (by simp <;> omega) (.cells #[.int .i64 u, .int .i64 v] 23))
  go_wp2_with fail
  refine (known_any _ E0).mono ?_
  rintro e w1 ⟨rfl, hb1⟩
  have bo1 : Below w.heap.size w w1 := ((((Below.refl _ w).alloc (Nat.le_refl _) _).alloc (by simp) _).alloc (by simp <;> omega) _).trans (hb1.mono (by simp <;> omega))
  have c1_0 := keepc hb1 (b := w.heap.size) (o := 0) (v := .int .i64 s) (by go_simp)
  have c1_1 := keepc hb1 (b := w.heap.size) (o := 1) (v := .int .i64 n) (by go_simp)
  have l1 : w.heap.size < w1.heap.size := by
    have := hb1.size
    try simp at this
    omega
  have c2_0 := keepc hb1 (b := w.heap.size + 1) (o := 0) (v := .int .i64 t) (by go_simp)
  have c2_1 := keepc hb1 (b := w.heap.size + 1) (o := 1) (v := .int .i64 m) (by go_simp)
  have l2 : w.heap.size + 1 < w1.heap.size := by
    have := hb1.size
    try simp at this
    omega
  have c3_0 := keepc hb1 (b := w.heap.size + 2) (o := 0) (v := .int .i64 u) (by go_simp)
  have c3_1 := keepc hb1 (b := w.heap.size + 2) (o := 1) (v := .int .i64 v) (by go_simp)
  have l3 : w.heap.size + 2 < w1.heap.size := by
    have := hb1.size
    try simp at this
    omega
  have bl1 : Below w.heap.size w w1 := (Below.refl _ _).trans (bo1.mono (Nat.le_refl _))
  clear hb1 bo1 E0
  go_upto_region 3 with fail
  go_cut [7] (fun v7 wx => ∃ G : Nat, v7 = .slice (some ⟨G, 0, none⟩) 3 3 ∧ w.heap.size ≤ G ∧ G < wx.heap.size ∧ L3 wx G (pk a c e) (pk b d f) ∧ Below w.heap.size w wx)
  case first =>
    go_region_held3 (fun w' => w'.cell? ⟨w.heap.size, 0, none⟩ = some (.int .i64 s) ∧ w'.cell? ⟨w.heap.size, 1, none⟩ = some (.int .i64 n) ∧ w'.cell? ⟨w.heap.size + 1, 0, none⟩ = some (.int .i64 t) ∧ w'.cell? ⟨w.heap.size + 1, 1, none⟩ = some (.int .i64 m) ∧ w'.cell? ⟨w.heap.size + 2, 0, none⟩ = some (.int .i64 u) ∧ w'.cell? ⟨w.heap.size + 2, 1, none⟩ = some (.int .i64 v) ∧ Below w.heap.size w w')
      (first | exact ⟨c1_0, c1_1, c2_0, c2_1, c3_0, c3_1, Below.drew bl1⟩ | exact keepS (by assumption) (by assumption) | exact keepA (by assumption) _)
      (first
        | (go_at_call_of 32 (Value.agg #[.int .i64 s, .int .i64 n]); refine (fit_as hf _).mono ?_; rintro e w' ⟨rfl, hb⟩)
        | (go_at_call_of 32 (Value.agg #[.int .i64 t, .int .i64 m]); refine (fit_as hg _).mono ?_; rintro e w' ⟨rfl, hb⟩)
        | (go_at_call_of 32 (Value.agg #[.int .i64 u, .int .i64 v]); refine (fit_as hh _).mono ?_; rintro e w' ⟨rfl, hb⟩))
    have hS7 : Below w.heap.size w w' := keepb hb (keepb (by assumption) (keepb (by assumption) (Below.drew bl1)))
    go_wp2_with fail
    go_meet
    exact ⟨w'.heap.size, rfl, hS7.size, by simp, l3_new _ _ _ _ _ _ _ _, hS7.alloc hS7.size _⟩
  obtain ⟨G, rfl, hG1, hG2, hL, hbl⟩ := hcut
  have hV := vs_pk hf.bds hg.bds hh.bds
  have hO := ord_new hL hG1 hG2 hbl 47
  clear c1_0 c1_1 l1 c2_0 c2_1 l2 c3_0 c3_1 l3 bl1 hE hf hg hh
  go_wp2
  clear hL hG1 hG2 hbl
  generalize wc.alloc (.cells #[.bool false, .bool false, .bool false, .bool false, .bool false, .bool false, .bool false, .bool false, .bool false] 47) = w2 at hO ⊢
  generalize wc.heap.size = L at hO ⊢
  generalize pk a c e = S at hV hO
  generalize pk b d f = N at hV hO
  go_loopw [9] (fun i wr => ∃ p : Nat, p ≤ 3 ∧ i = .int .i64 p ∧ Ord w wr G L S N p 0) (fun i _ => 3 - (intOf i).toNat)
  case atStart => exact ⟨0, by omega, rfl, hO⟩
  case round =>
    obtain ⟨p, hp, rfl, hO1⟩ := hrel
    clear hO
    by_cases hp3 : p < 3
    · have i1 : (p : Int) < 3 := by omega
      go_wp2
      go_loopw [10] (fun k wi => ∃ q : Nat, q ≤ 3 ∧ k = .int .i64 q ∧ Ord w wi G L S N p q) (fun k _ => 3 - (intOf k).toNat)
      case atStart => exact ⟨0, by omega, rfl, hO1⟩
      case round =>
        obtain ⟨q, hq, rfl, hO⟩ := hrel
        clear hO1
        by_cases hq3 : q < 3
        · have j1 : (q : Int) < 3 := by omega
          obtain ⟨a1, a2, a3, a4⟩ := hV p hp3
          obtain ⟨b1, b2, b3, b4⟩ := hV q hq3
          go_upto_region 11 with fail
          go_cut [] (fun wx => Ord w wx G L S N p (q + 1))
          case first =>
            have hS0 := conj_of hO.drew hp3 hq3
            go_region_held3 (fun W => W.cell? ⟨G, p * 2, none⟩ = some (.int .i64 (S p)) ∧ W.cell? ⟨G, p * 2 + 1, none⟩ = some (.int .i64 (N p)) ∧ W.cell? ⟨G, q * 2, none⟩ = some (.int .i64 (S q)) ∧ W.cell? ⟨G, q * 2 + 1, none⟩ = some (.int .i64 (N q)) ∧ W.frozen? ⟨L, p * 3 + q, none⟩ = false ∧ W.cell? ⟨L, p * 3 + q, none⟩ = some (vat W ⟨L, p * 3 + q, none⟩) ∧ L ≠ G)
              (first | assumption | exact conj_on (by assumption) (by assumption) | exact conj_set (by assumption) _)
              (first | (go_at_call 16; refine (less_as (v := mm S N p q) rfl _).mono ?_; rintro e w' ⟨rfl, hb⟩))
            go_wp2_with fail
            go_meet
            exact (hO.drew.on hb).put hp3 hq3
          clear hO
          obtain ⟨x, hx⟩ : ∃ x, lb (S p) (N p) = x := ⟨_, rfl⟩
          obtain ⟨y, hy⟩ : ∃ y, lb (S q) (N q) = y := ⟨_, rfl⟩
          have hvp : vld (S p) (N p) = true := by rw [vld_iff]; omega
          have hvq : vld (S q) (N q) = true := by rw [vld_iff]; omega
          have hM := lt8_lb hvp a2 hvq b2
          have hxl := lb_len hvp
          have hyl := lb_len hvq
          rw [hx] at hM hxl
          rw [hy] at hM hyl
          obtain ⟨M, hM1⟩ : ∃ M, mm S N p q = M := ⟨_, rfl⟩
          obtain ⟨U, hU1⟩ : ∃ U, sam (S p) (N p) (S q) (N q) = U := ⟨_, rfl⟩
          have hUM := mm_sam (S := S) (N := N) p q
          rw [hM1, hU1] at hUM
          have hM2 : Is (lt8 x y) M := hM.trans hM1
          have HX : Is (lb (S p) (N p)) x := hx
          have HY : Is (lb (S q) (N q)) y := hy
          have HU : Is (sam (S p) (N p) (S q) (N q)) U := hU1
          have HM : Is (mm S N p q) M := hM1
          have HXL := Lib.hid hxl
          have HYL := Lib.hid hyl
          clear hx hy hvp hvq hM hxl hyl hM1 hU1
          obtain ⟨e1, e2⟩ := hcut.l p hp3
          obtain ⟨e3, e4⟩ := hcut.l q hq3
          go_wp2_with fail
          refine (put12 HX HXL.out _ a2).mono ?_
          rintro e w3 ⟨A3, k3, rfl, hs3, hb3⟩
          have hO3 := hcut.on hb3
          clear e1 e2 e3 e4 hb3
          obtain ⟨e1, e2⟩ := hO3.l p hp3
          obtain ⟨e3, e4⟩ := hO3.l q hq3
          go_wp2_with fail
          refine (put12 HY HYL.out _ b2).mono ?_
          rintro e w4 ⟨A4, k4, rfl, hs4, hb4⟩
          have hO4 := hO3.on hb4
          have hs5 := hs3.on hb4
          clear e1 e2 e3 e4 hs3 hb4
          go_wp2_with fail
          refine (less12 HXL.out HYL.out hM2 _ _ _ _ _ hs5 hs4).mono ?_
          rintro e w5 ⟨rfl, hb5⟩
          have hO5 := (hO4.on hb5).drew
          clear hs4 hs5 hb5 hcut hO3 hO4
          obtain ⟨e1, e2⟩ := hO5.l p hp3
          obtain ⟨e3, e4⟩ := hO5.l q hq3
          go_upto_region 15 with fail
          refine wp_region_still_tail 8 (by kernel_rfl) (by kernel_rfl) ?_
          simp only [List.take_succ_cons, List.take_zero, List.drop_succ_cons, List.drop_zero]
          change wpStill _ _ w5.drew (fun a' => wpList _ _ _ _ a' w5.drew) _ _
          generalize w5.drew = wd at e1 e2 e3 e4 hO5 ⊢
          repeat still_step
          try refine wpStill_nil ?_
          go_wp2_with fail
          refine (sam_as HU _).mono ?_
          rintro e w6 ⟨rfl, hb6⟩
          have hO6 := hO5.on hb6
          clear e1 e2 e3 e4 hO5 hb6
          have cM := hO6.m p q hp3 hq3
          rw [if_pos (by omega), show mm S N p q = M from HM] at cM
          go_upto_region 16 with fail
          go_cut [91] (fun s91 wx => s91 = .bool false ∧ wx = w6)
          case first =>
            rcases um hUM with rfl | ⟨rfl, rfl⟩
            · cases U
              all_goals go_wp2_with fail
              all_goals (go_meet; exact ⟨rfl, rfl⟩)
            · go_wp2_with fail
              go_meet
              exact ⟨rfl, rfl⟩
          obtain ⟨rfl, rfl⟩ := hcut
          go_upto_region 18 with fail
          go_cut [111] (fun s111 wx => s111 = .bool false ∧ Ord w wx G L S N p (q + 1))
          case first =>
            have hT := mm_tot (S := S) (N := N) p q
            rw [show sam (S p) (N p) (S q) (N q) = U from HU, show mm S N p q = M from HM] at hT
            by_cases hqp : q < p
            · have hd : decide ((q : Int) < (p : Int)) = true := by rw [decide_eq_true_iff]; omega
              have hd2 : (q : Int) < (p : Int) := by omega
              cases U
              · have c2 := hO6.m q p hq3 hp3
                rw [if_pos (.inl hqp)] at c2
                obtain ⟨M', hM'⟩ : ∃ M', mm S N q p = M' := ⟨_, rfl⟩
                rw [hM'] at c2 hT
                have hE2 : (M == M') = false := by simpa [Is] using hT
                clear hT hM'
                go_quiet (fail)
                go_wp2
                go_meet
                exact ⟨rfl, hO6.on (By.below_of_drewN _)⟩
              · clear hT
                go_quiet (fail)
                go_wp2
                go_meet
                exact ⟨rfl, hO6.on (By.below_of_drewN _)⟩
            · have hd : decide ((q : Int) < (p : Int)) = false := by rw [decide_eq_false_iff_not]; omega
              have hd2 : ¬ (q : Int) < (p : Int) := by omega
              clear hT
              go_quiet (fail)
              go_wp2
              go_meet
              exact ⟨rfl, hO6.on (By.below_of_drewN _)⟩
          obtain ⟨rfl, hO7⟩ := hcut
          clear cM hO6 hUM
          go_wp2
          go_roundw
          case rel => exact ⟨q + 1, by omega, by go_num, hO7⟩
          case measure => simp [intOf]; omega
        · obtain rfl : q = 3 := by omega
          have hO8 := hO.row
          clear hO
          go_wp2
          go_roundw
          case rel => exact ⟨p + 1, by omega, by go_num, hO8⟩
          case measure => simp [intOf]; omega
    · obtain rfl : p = 3 := by omega
      generalize wr = wq at hO1 ⊢
      have hC : Tab wq L S N := fun i k hi hk => (hO1.m i k hi hk).trans (by rw [if_pos (.inl hi)])
      have hbq := hO1.bl
      clear hO1 hV
      go_wp2
      go_loopw [15] (fun i wz => ∃ x : Nat, x ≤ 3 ∧ i = .int .i64 x ∧ wz = wq) (fun i _ => 3 - (intOf i).toNat)
      case atStart => exact ⟨0, by omega, rfl, rfl⟩
      case round =>
        obtain ⟨x, hx, rfl, rfl⟩ := hrel
        by_cases hx3 : x < 3
        · have i1 : (x : Int) < 3 := by omega
          go_wp2
          go_loopw [16] (fun i wz => ∃ y : Nat, y ≤ 3 ∧ i = .int .i64 y ∧ wz = wr) (fun i _ => 3 - (intOf i).toNat)
          case atStart => exact ⟨0, by omega, rfl, rfl⟩
          case round =>
            obtain ⟨y, hy, rfl, hwy⟩ := hrel
            subst hwy
            by_cases hy3 : y < 3
            · have i2 : (y : Int) < 3 := by omega
              go_wp2
              go_loopw [17] (fun i wz => ∃ z : Nat, z ≤ 3 ∧ i = .int .i64 z ∧ wz = wr) (fun i _ => 3 - (intOf i).toNat)
              case atStart => exact ⟨0, by omega, rfl, rfl⟩
              case round =>
                obtain ⟨z, hz, rfl, hwz⟩ := hrel
                subst hwz
                by_cases hz3 : z < 3
                · have i3 : (z : Int) < 3 := by omega
                  have c1 := hC x y hx3 hy3
                  have c2 := hC y z hy3 hz3
                  have c3 := hC x z hx3 hz3
                  have hT := mm_trans (S := S) (N := N) x y z
                  obtain ⟨M1, h1⟩ : ∃ M, mm S N x y = M := ⟨_, rfl⟩
                  obtain ⟨M2, h2⟩ : ∃ M, mm S N y z = M := ⟨_, rfl⟩
                  obtain ⟨M3, h3⟩ : ∃ M, mm S N x z = M := ⟨_, rfl⟩
                  rw [h1] at c1 hT
                  rw [h2] at c2 hT
                  rw [h3] at c3 hT
                  clear h1 h2 h3
                  rcases tr hT with rfl | ⟨rfl, rfl | ⟨rfl, rfl⟩⟩
                  all_goals clear hT
                  all_goals go_wp2
                  all_goals go_roundw
                  case rel => exact ⟨z + 1, by omega, by go_num, trivial⟩
                  case measure => simp [intOf]; omega
                  case rel => exact ⟨z + 1, by omega, by go_num, trivial⟩
                  case measure => simp [intOf]; omega
                  case rel => exact ⟨z + 1, by omega, by go_num, trivial⟩
                  case measure => simp [intOf]; omega
                · obtain rfl : z = 3 := by omega
                  go_wp2
                  go_roundw
                  case rel => exact ⟨y + 1, by omega, by go_num, trivial⟩
                  case measure => simp [intOf]; omega
            · obtain rfl : y = 3 := by omega
              go_wp2
              go_roundw
              case rel => exact ⟨x + 1, by omega, by go_num, trivial⟩
              case measure => simp [intOf]; omega
        · obtain rfl : x = 3 := by omega
          go_wp2
          go_ret
          exact ⟨rfl, hbq⟩

theorem stampOrder_law (s n t m u v : Int) (w : World) (hE : Env w) (hs1 : -9223372036854775808 ≤ s) (hs2 : s ≤ 9223372036854775807) (ht1 : -9223372036854775808 ≤ t) (ht2 : t ≤ 9223372036854775807) (hu1 : -9223372036854775808 ≤ u) (hu2 : u ≤ 9223372036854775807) :
    Calls Tryd.prog 9 #[.agg #[.int .i64 s, .int .i64 n], .agg #[.int .i64 t, .int .i64 m], .agg #[.int .i64 u, .int .i64 v]] w fun e w' => e = .returned (.bool true) ∧ Below w.heap.size w w' :=
  order_law s n t m u v _ _ _ _ _ _ w hE ⟨hs1, hs2, rfl, rfl⟩ ⟨ht1, ht2, rfl, rfl⟩ ⟨hu1, hu2, rfl, rfl⟩
end Go.Proofs.YtpjgebbmbiohbaaDoor.St
