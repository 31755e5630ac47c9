/- Arguments of a bounded bulk: lists, changes, steps and scripts opened. -/
import Derived.Test.YtpkmekdpmkfcdaaGreatDoorFrameT
import Derived.Test.YtpkmekdpmkfcdaaGreatDoorSmG
import Derived.Deep.Slices
import Derived.ChangeSame
namespace Go.Proofs.YtpkmekdpmkfcdaaGreatDoor.Fr
set_option linter.unusedVariables false
set_option linter.unusedSimpArgs false
open Go.ChangeShapes Go.WideShapes Go.ChangeAt Go.RowKit Go.Deep Go.Proofs.YtpkmekdpmkfcdaaGreatDoor.En Go.Proofs.YtpkmekdpmkfcdaaGreatDoor.Wd Go.Proofs.YtpkmekdpmkfcdaaGreatDoor.Sc Go.Proofs.YtpkmekdpmkfcdaaGreatDoor.Sr

/-! ### bulk -/
theorem bk_one {H : Type} (d : DataW H) : 1 ≤ Rows.uptoBulk d := by
  cases d with
  | lit l => cases l <;> simp [Rows.uptoBulk]
  | nil => simp [Rows.uptoBulk]
  | ptr d => simp [Rows.uptoBulk]
  | slice elems spare => simp [Rows.uptoBulk]
  | agg parts => simp [Rows.uptoBulk]
  | iface t d => simp [Rows.uptoBulk]
  | map entries => simp [Rows.uptoBulk]
  | held h => simp [Rows.uptoBulk]
theorem bk_part {H : Type} {d : DataW H} {l : List (DataW H)} (h : d ∈ l) : Rows.uptoBulk d ≤ Rows.uptoBulkAll l := by
  induction l with
  | nil => cases h
  | cons x r ih =>
    simp only [Rows.uptoBulkAll]
    cases List.mem_cons.1 h with
    | inl e => subst e; omega
    | inr e => have := ih e; omega
theorem bk_length {H : Type} (l : List (DataW H)) : l.length ≤ Rows.uptoBulkAll l := by
  induction l with
  | nil => simp [Rows.uptoBulkAll]
  | cons x r ih => have := bk_one x; simp only [Rows.uptoBulkAll, List.length_cons]; omega
theorem bk_slice {H : Type} (elems spare : List (DataW H)) : Rows.uptoBulkAll elems + 1 ≤ Rows.uptoBulk (.slice elems spare) := by
  simp only [Rows.uptoBulk]
  omega
theorem bk_agg {H : Type} {d : DataW H} {l : List (DataW H)} (h : d ∈ l) : Rows.uptoBulk d ≤ Rows.uptoBulk (.agg l) := by
  have := bk_part h
  simp only [Rows.uptoBulk]
  omega
theorem bk_field {H : Type} {B : Nat} (z : DataW H × List MemPlace) (l : List (DataW H × List MemPlace)) (h : z ∈ l) (hB : Rows.uptoBulk (.agg (l.map (·.1))) ≤ B) : Rows.uptoBulk z.1 ≤ B := Nat.le_trans (bk_agg (List.mem_map.2 ⟨z, h, rfl⟩)) hB
theorem bk_all {H : Type} {d : DataW H} {l : List (DataW H)} (hk : Rows.uptoSmall H l = true) (h : d ∈ l) : Rows.uptoBulk d ≤ 1048576 := by
  have h1 := of_decide_eq_true hk
  have := bk_part h
  omega

variable {H : Type} {enc : TypeId × Value → H} {W : World} {base : Nat} {sp : Nat → Bool} {held : Bool}

theorem cI : Tryz.prog.cellsOf 3 = 1 := by kernel_rfl
theorem cU : Tryz.prog.cellsOf 86 = 1 := by kernel_rfl
theorem cBo : Tryz.prog.cellsOf 4 = 1 := by kernel_rfl
theorem cA : Tryz.prog.cellsOf 88 = 3 := by kernel_rfl
theorem cP : Tryz.prog.cellsOf 90 = 4 := by kernel_rfl
theorem cSt : Tryz.prog.cellsOf 102 = 2 := by kernel_rfl
theorem cPa : Tryz.prog.cellsOf 104 = 2 := by kernel_rfl
theorem cFl : Tryz.prog.cellsOf 125 = 2 := by kernel_rfl
theorem cCh : Tryz.prog.cellsOf 92 = 8 := by kernel_rfl
theorem cOp : Tryz.prog.cellsOf 108 = 14 := by kernel_rfl
theorem cSB : Tryz.prog.cellsOf 85 = 1 := by kernel_rfl
theorem cSO : Tryz.prog.cellsOf 106 = 1 := by kernel_rfl
theorem cSF : Tryz.prog.cellsOf 105 = 1 := by kernel_rfl
theorem cSC : Tryz.prog.cellsOf 22 = 1 := by kernel_rfl
theorem cSS : Tryz.prog.cellsOf 58 = 1 := by kernel_rfl
theorem cScr : Tryz.prog.cellsOf 60 = 2 := by kernel_rfl

theorem trod_s3 {t : TypeId} {f0 f1 f2 : Field} {fuel : Nat} {cs : List Value} {x : DataW H × List MemPlace} (ht : Tryz.prog.underlying t = some (.struct #[f0, f1, f2])) (h : DataW.trod enc Tryz.prog W base sp held fuel t cs = some x) :
    ∃ y0 y1 y2 n, x.1 = .agg ([y0, y1, y2].map (·.1)) ∧ DataW.trod enc Tryz.prog W base sp held n f0.type ((cs.drop f0.offset).take (Tryz.prog.cellsOf f0.type)) = some y0 ∧
      DataW.trod enc Tryz.prog W base sp held n f1.type ((cs.drop f1.offset).take (Tryz.prog.cellsOf f1.type)) = some y1 ∧
      DataW.trod enc Tryz.prog W base sp held n f2.type ((cs.drop f2.offset).take (Tryz.prog.cellsOf f2.type)) = some y2 := by
  obtain ⟨xs, n, _, rfl, hl, hlen, hf⟩ := DataW.trod_struct ht h
  match xs, hlen with
  | [y0, y1, y2], _ => exact ⟨y0, y1, y2, n, rfl, by simpa using hf 0 f0 rfl, by simpa using hf 1 f1 rfl, by simpa using hf 2 f2 rfl⟩
theorem trod_s5 {t : TypeId} {f0 f1 f2 f3 f4 : Field} {fuel : Nat} {cs : List Value} {x : DataW H × List MemPlace} (ht : Tryz.prog.underlying t = some (.struct #[f0, f1, f2, f3, f4])) (h : DataW.trod enc Tryz.prog W base sp held fuel t cs = some x) :
    ∃ y0 y1 y2 y3 y4 n, x.1 = .agg ([y0, y1, y2, y3, y4].map (·.1)) ∧ DataW.trod enc Tryz.prog W base sp held n f0.type ((cs.drop f0.offset).take (Tryz.prog.cellsOf f0.type)) = some y0 ∧
      DataW.trod enc Tryz.prog W base sp held n f1.type ((cs.drop f1.offset).take (Tryz.prog.cellsOf f1.type)) = some y1 ∧
      DataW.trod enc Tryz.prog W base sp held n f2.type ((cs.drop f2.offset).take (Tryz.prog.cellsOf f2.type)) = some y2 ∧
      DataW.trod enc Tryz.prog W base sp held n f3.type ((cs.drop f3.offset).take (Tryz.prog.cellsOf f3.type)) = some y3 ∧
      DataW.trod enc Tryz.prog W base sp held n f4.type ((cs.drop f4.offset).take (Tryz.prog.cellsOf f4.type)) = some y4 := by
  obtain ⟨xs, n, _, rfl, hl, hlen, hf⟩ := DataW.trod_struct ht h
  match xs, hlen with
  | [y0, y1, y2, y3, y4], _ => exact ⟨y0, y1, y2, y3, y4, n, rfl, by simpa using hf 0 f0 rfl, by simpa using hf 1 f1 rfl, by simpa using hf 2 f2 rfl, by simpa using hf 3 f3 rfl, by simpa using hf 4 f4 rfl⟩
theorem trod_s12 {t : TypeId} {f0 f1 f2 f3 f4 f5 f6 f7 f8 f9 f10 f11 : Field} {fuel : Nat} {cs : List Value} {x : DataW H × List MemPlace} (ht : Tryz.prog.underlying t = some (.struct #[f0, f1, f2, f3, f4, f5, f6, f7, f8, f9, f10, f11])) (h : DataW.trod enc Tryz.prog W base sp held fuel t cs = some x) :
    ∃ y0 y1 y2 y3 y4 y5 y6 y7 y8 y9 y10 y11 n, x.1 = .agg ([y0, y1, y2, y3, y4, y5, y6, y7, y8, y9, y10, y11].map (·.1)) ∧ DataW.trod enc Tryz.prog W base sp held n f0.type ((cs.drop f0.offset).take (Tryz.prog.cellsOf f0.type)) = some y0 ∧
      DataW.trod enc Tryz.prog W base sp held n f1.type ((cs.drop f1.offset).take (Tryz.prog.cellsOf f1.type)) = some y1 ∧
      DataW.trod enc Tryz.prog W base sp held n f2.type ((cs.drop f2.offset).take (Tryz.prog.cellsOf f2.type)) = some y2 ∧
      DataW.trod enc Tryz.prog W base sp held n f3.type ((cs.drop f3.offset).take (Tryz.prog.cellsOf f3.type)) = some y3 ∧
      DataW.trod enc Tryz.prog W base sp held n f4.type ((cs.drop f4.offset).take (Tryz.prog.cellsOf f4.type)) = some y4 ∧
      DataW.trod enc Tryz.prog W base sp held n f5.type ((cs.drop f5.offset).take (Tryz.prog.cellsOf f5.type)) = some y5 ∧
      DataW.trod enc Tryz.prog W base sp held n f6.type ((cs.drop f6.offset).take (Tryz.prog.cellsOf f6.type)) = some y6 ∧
      DataW.trod enc Tryz.prog W base sp held n f7.type ((cs.drop f7.offset).take (Tryz.prog.cellsOf f7.type)) = some y7 ∧
      DataW.trod enc Tryz.prog W base sp held n f8.type ((cs.drop f8.offset).take (Tryz.prog.cellsOf f8.type)) = some y8 ∧
      DataW.trod enc Tryz.prog W base sp held n f9.type ((cs.drop f9.offset).take (Tryz.prog.cellsOf f9.type)) = some y9 ∧
      DataW.trod enc Tryz.prog W base sp held n f10.type ((cs.drop f10.offset).take (Tryz.prog.cellsOf f10.type)) = some y10 ∧
      DataW.trod enc Tryz.prog W base sp held n f11.type ((cs.drop f11.offset).take (Tryz.prog.cellsOf f11.type)) = some y11 := by
  obtain ⟨xs, n, _, rfl, hl, hlen, hf⟩ := DataW.trod_struct ht h
  match xs, hlen with
  | [y0, y1, y2, y3, y4, y5, y6, y7, y8, y9, y10, y11], _ => exact ⟨y0, y1, y2, y3, y4, y5, y6, y7, y8, y9, y10, y11, n, rfl, by simpa using hf 0 f0 rfl, by simpa using hf 1 f1 rfl, by simpa using hf 2 f2 rfl, by simpa using hf 3 f3 rfl, by simpa using hf 4 f4 rfl, by simpa using hf 5 f5 rfl, by simpa using hf 6 f6 rfl, by simpa using hf 7 f7 rfl, by simpa using hf 8 f8 rfl, by simpa using hf 9 f9 rfl, by simpa using hf 10 f10 rfl, by simpa using hf 11 f11 rfl⟩
theorem i64_at {y : DataW H × List MemPlace} {n : Nat} {c : Value} (h : DataW.trod enc Tryz.prog W base sp held n 3 [c] = some y) : ∃ x : Int, c = .int .i64 x ∧ -9223372036854775808 ≤ x ∧ x ≤ 9223372036854775807 := by
  obtain ⟨z, e, -, w⟩ := DataW.trod_int Tryz.underlying3 h
  simp only [List.cons.injEq, and_true] at e
  subst e
  exact ⟨z, rfl, bounds_i64 w⟩
theorem u64_at {y : DataW H × List MemPlace} {n : Nat} {c : Value} (h : DataW.trod enc Tryz.prog W base sp held n 86 [c] = some y) : ∃ x : Nat, c = .int .u64 (x : Int) ∧ x < 18446744073709551616 := by
  obtain ⟨z, e, -, w⟩ := DataW.trod_int Tryz.underlying86 h
  simp only [List.cons.injEq, and_true] at e
  subst e
  have hb := bounds_u64 w
  exact ⟨z.toNat, by congr 1; omega, by omega⟩

/-- a list, opened: each element by its own cells -/
instance : Inhabited Chg := ⟨chg0⟩
instance : Inhabited Opp := ⟨opp0⟩
instance : Inhabited Opv := ⟨⟨nl, nl, nl, nl, [], 0, 0⟩⟩
theorem open_list {α : Type} [Inhabited α] {t e : TypeId} {s : Nat} (ht : Tryz.prog.underlying t = some (.slice e)) (hce : Tryz.prog.cellsOf e = s) (hs0 : 0 < s) (R : α → List Value → Prop)
    (hopen : ∀ (n : Nat) (cs : List Value) (y : DataW H × List MemPlace), cs.length = s → DataW.trod enc Tryz.prog W base sp held n e cs = some y → Rows.uptoBulk y.1 ≤ 1048576 → ∃ a, R a cs)
    {fuel : Nat} {cs : List Value} {x : DataW H × List MemPlace} (h : DataW.trod enc Tryz.prog W base sp held fuel t cs = some x) (hB : Rows.uptoBulk x.1 ≤ 1048576) :
    ∃ (l : List α) (A : Option Addr) (cap : Nat) (q : Nat → List Value), cs = [.slice A l.length cap] ∧ l.length ≤ cap ∧ l.length ≤ 1048576 ∧ (∀ i a, l[i]? = some a → R a (q i)) ∧
      (0 < l.length → ∃ b o, A = some ⟨b, o, none⟩ ∧ b < W.heap.size ∧ ∀ i a, l[i]? = some a → ∀ (j : Nat) u, (q i)[j]? = some u → W.cell? ⟨b, o + i * s + j, none⟩ = some u) := by
  rcases open_slice ht h with ⟨hcs, hx⟩ | ⟨x, len, cap, m, n, D, Pl, hcs, _, hl, hm, hmm, hx, hcell⟩
  · exact ⟨[], none, 0, fun _ => [], hcs, Nat.le_refl _, by simp, fun i a h => by simp at h, fun h => absurd h (by simp)⟩
  · subst hcs
    have hlm : len ≤ m := by rw [hmm]; split <;> omega
    rw [hx] at hB
    have hle : Rows.uptoBulkAll ((List.range len).map D) + 1 ≤ 1048576 := Nat.le_trans (bk_slice _ _) hB
    have each : ∀ i, i < len → ∃ q : List Value × α, R q.2 q.1 ∧ q.1.length = s ∧ ∀ (j : Nat) u, q.1[j]? = some u → W.cell? ((x.add (i * s)).add j) = some u := by
      intro i hi
      obtain ⟨cs', h1, h2⟩ := hcell i (by omega)
      rw [hce] at h1
      obtain ⟨_, hlen, hc⟩ := World.cells?_some h1
      obtain ⟨a, ha⟩ := hopen n cs' _ (by simpa using hlen) h2 (by
        have : D i ∈ (List.range len).map D := List.mem_map.2 ⟨i, List.mem_range.2 hi, rfl⟩
        have := bk_part this
        simp only
        omega)
      refine ⟨(cs', a), ha, by simpa using hlen, fun j u hu => ?_⟩
      have hj : j < cs'.length := (List.getElem?_eq_some_iff.1 hu).1
      have hl2 : cs'.length = s := by simpa using hlen
      have hcj := hc j (by omega)
      rw [hcj]
      exact hu
    obtain ⟨q, hq⟩ := choose_lt each
    have hlen : ((List.range len).map fun i => (q i).2).length = len := by simp
    refine ⟨(List.range len).map fun i => (q i).2, some x, cap, fun i => (q i).1, by rw [hlen], by rw [hlen]; exact hl, by rw [hlen]; have := bk_length ((List.range len).map D); simp at this; omega, fun i a ha => ?_, fun hpos => ?_⟩
    · have hi : i < len := by have := (List.getElem?_eq_some_iff.1 ha).1; rwa [hlen] at this
      rw [List.getElem?_map, List.getElem?_range hi] at ha
      injection ha with ha
      subst ha
      exact (hq i hi).1
    · rw [hlen] at hpos
      obtain ⟨u0, hu0⟩ : ∃ u, (q 0).1[0]? = some u := ⟨_, List.getElem?_eq_getElem (by rw [(hq 0 hpos).2.1]; exact hs0)⟩
      have hc0 := (hq 0 hpos).2.2 0 u0 hu0
      obtain ⟨b, off, spot⟩ := x
      have hspot : spot = none := by simpa [Addr.add] using World.cell?_spot hc0
      subst hspot
      have hadd : ∀ i j, ((⟨b, off, none⟩ : Addr).add i).add j = ⟨b, off + i + j, none⟩ := fun i j => by
        unfold Addr.add
        split <;> split <;> simp_all
      refine ⟨b, off, rfl, World.block_lt_of_cell? W _ (by simpa [hadd] using hc0), fun i a ha j u hu => ?_⟩
      have hi : i < len := by have := (List.getElem?_eq_some_iff.1 ha).1; rwa [hlen] at this
      have := (hq i hi).2.2 j u hu
      rwa [hadd] at this

theorem open_u8 {fuel : Nat} {c : Value} {x : DataW H × List MemPlace} (h : DataW.trod enc Tryz.prog W base sp held fuel 85 [c] = some x) (hB : Rows.uptoBulk x.1 ≤ 1048576) :
    ∃ (l : List UInt8) (A : Option Addr) (cap : Nat), c = .slice A l.length cap ∧ l.length ≤ cap ∧ l.length ≤ 1048576 ∧ Shows cel W W.heap.size A l := by
  obtain ⟨l, A, cap, q, e, h1, h2, h3, h4⟩ := open_list (α := UInt8) Tryz.underlying85 cBy (by omega) (fun u cs => cs = [cel u]) (fun n cs y hl hf _ => by
    obtain ⟨z, e, -, w⟩ := DataW.trod_int Tryz.underlying5 hf
    have hb := bounds_u8 w
    refine ⟨UInt8.ofNat z.toNat, ?_⟩
    rw [e]
    unfold cel
    rw [UInt8.toNat_ofNat', Nat.mod_eq_of_lt (by omega)]
    congr 2
    omega) h hB
  simp only [List.cons.injEq, and_true] at e
  refine ⟨l, A, cap, e, h1, h2, fun hp => ?_⟩
  obtain ⟨b, o, rfl, hb, hc⟩ := h4 hp
  refine ⟨b, o, rfl, hb, fun i u hu => ?_⟩
  have := hc i u hu 0 (cel u) (by rw [h3 i u hu]; rfl)
  rwa [Nat.mul_one, Nat.add_zero] at this
theorem open_bo {fuel : Nat} {c : Value} {x : DataW H × List MemPlace} (h : DataW.trod enc Tryz.prog W base sp held fuel 106 [c] = some x) (hB : Rows.uptoBulk x.1 ≤ 1048576) :
    ∃ (l : List Bool) (A : Option Addr) (cap : Nat), c = .slice A l.length cap ∧ l.length ≤ cap ∧ l.length ≤ 1048576 ∧ Shows Value.bool W W.heap.size A l := by
  obtain ⟨l, A, cap, q, e, h1, h2, h3, h4⟩ := open_list (α := Bool) Tryz.underlying106 cBo (by omega) (fun u cs => cs = [.bool u]) (fun n cs y hl hf _ => by
    obtain ⟨z, e, -⟩ := DataW.trod_bool Tryz.underlying4 hf
    exact ⟨z, e⟩) h hB
  simp only [List.cons.injEq, and_true] at e
  refine ⟨l, A, cap, e, h1, h2, fun hp => ?_⟩
  obtain ⟨b, o, rfl, hb, hc⟩ := h4 hp
  refine ⟨b, o, rfl, hb, fun i u hu => ?_⟩
  have := hc i u hu 0 (.bool u) (by rw [h3 i u hu]; rfl)
  rwa [Nat.mul_one, Nat.add_zero] at this
theorem open_fl {fuel : Nat} {c : Value} {x : DataW H × List MemPlace} (h : DataW.trod enc Tryz.prog W base sp held fuel 105 [c] = some x) (hB : Rows.uptoBulk x.1 ≤ 1048576) :
    ∃ (l : List (Int × Int)) (A : Option Addr) (cap : Nat), c = .slice A l.length cap ∧ l.length ≤ cap ∧ l.length ≤ 1048576 ∧ ShF W A l := by
  obtain ⟨l, A, cap, q, e, h1, h2, h3, h4⟩ := open_list (α := Int × Int) Tryz.underlying105 cFl (by omega) (fun u cs => cs = fltC u) (fun n cs y hl hf _ => by
    match cs, hl with
    | [c0, c1], _ =>
      obtain ⟨y0, y1, m, -, -, k0, k1⟩ := trod_struct2 Tryz.underlying125 hf
      simp only [cI, List.drop_zero, List.take_succ_cons, List.take_zero, List.drop_succ_cons] at k0 k1
      obtain ⟨a, rfl, -⟩ := i64_at k0
      obtain ⟨b, rfl, -⟩ := i64_at k1
      exact ⟨(a, b), rfl⟩) h hB
  simp only [List.cons.injEq, and_true] at e
  refine ⟨l, A, cap, e, h1, h2, fun hp => ?_⟩
  obtain ⟨b, o, rfl, hb, hc⟩ := h4 hp
  refine ⟨b, o, rfl, hb, fun i u hu => ⟨?_, ?_⟩⟩
  · have := hc i u hu 0 (.int .i64 u.1) (by rw [h3 i u hu]; rfl)
    rwa [Nat.add_zero] at this
  · exact hc i u hu 1 (.int .i64 u.2) (by rw [h3 i u hu]; rfl)
theorem prefix_at {n : Nat} {cs : List Value} {y : DataW H × List MemPlace} (hl : cs.length = 4) (hf : DataW.trod enc Tryz.prog W base sp held n 90 cs = some y) :
    ∃ (f : Int) (hi lo : Nat) (b : Int), cs = [.int .i64 f, .int .u64 (hi : Int), .int .u64 (lo : Int), .int .i64 b] ∧ hi < 18446744073709551616 ∧ lo < 18446744073709551616 := by
  match cs, hl with
  | [c0, c1, c2, c3], _ =>
    obtain ⟨y0, y1, m, -, -, h0, h1⟩ := trod_struct2 Tryz.underlying90 hf
    simp only [cA, cI, List.drop_zero, List.take_succ_cons, List.take_zero, List.drop_succ_cons] at h0 h1
    obtain ⟨z0, z1, z2, k, -, k0, k1, k2⟩ := trod_s3 Tryz.underlying88 h0
    · simp only [cI, cU, List.drop_zero, List.take_succ_cons, List.take_zero, List.drop_succ_cons] at k0 k1 k2
      obtain ⟨f, rfl, -⟩ := i64_at k0
      obtain ⟨hi, rfl, b1⟩ := u64_at k1
      obtain ⟨lo, rfl, b2⟩ := u64_at k2
      obtain ⟨b, rfl, -⟩ := i64_at h1
      exact ⟨f, hi, lo, b, rfl, b1, b2⟩
theorem change_at {n : Nat} {cs : List Value} {y : DataW H × List MemPlace} (hl : cs.length = 8) (hf : DataW.trod enc Tryz.prog W base sp held n 92 cs = some y) (hB : Rows.uptoBulk y.1 ≤ 1048576) :
    ∃ q : Chg × Value, cs = (chC q.1 q.2).toList ∧ Lim q.1 ∧ ∃ Ak ck, q.2 = .slice Ak q.1.key.length ck ∧ q.1.key.length ≤ ck ∧ Shows cel W W.heap.size Ak q.1.key := by
  match cs, hl with
  | [c0, c1, c2, c3, c4, c5, c6, c7], _ =>
    obtain ⟨z0, z1, z2, z3, z4, k, hy, k0, k1, k2, k3, k4⟩ := trod_s5 Tryz.underlying92 hf
    rw [hy] at hB
    · simp only [cI, cSB, cP, List.drop_zero, List.take_succ_cons, List.take_zero, List.drop_succ_cons] at k0 k1 k2 k3 k4
      obtain ⟨kd, rfl, -⟩ := i64_at k0
      obtain ⟨lk, rfl, -⟩ := i64_at k1
      obtain ⟨sd, rfl, -⟩ := i64_at k2
      obtain ⟨key, Ak, ck, rfl, g1, g2, g3⟩ := open_u8 k3 (bk_field z3 [z0, z1, z2, z3, z4] (by simp) hB)
      obtain ⟨f, hi, lo, b, e, b1, b2⟩ := prefix_at (by simp) k4
      simp only [List.cons.injEq, and_true] at e
      obtain ⟨rfl, rfl, rfl, rfl⟩ := e
      exact ⟨(⟨kd, lk, sd, key, f, hi, lo, b⟩, .slice Ak key.length ck), rfl, ⟨by simp only; omega, b1, b2⟩, Ak, ck, rfl, g1, g3⟩
theorem open_ch {fuel : Nat} {c : Value} {x : DataW H × List MemPlace} (h : DataW.trod enc Tryz.prog W base sp held fuel 22 [c] = some x) (hB : Rows.uptoBulk x.1 ≤ 1048576) :
    ∃ (l : List Chg) (kvs : List Value) (A : Option Addr) (cap : Nat), c = .slice A l.length cap ∧ l.length ≤ cap ∧ l.length ≤ 1048576 ∧ ShC W A l kvs ∧ ∀ c ∈ l, Lim c := by
  obtain ⟨l, A, cap, q, e, h1, h2, h3, h4⟩ := open_list (α := Chg × Value) Tryz.underlying22 cCh (by omega) (fun p cs => cs = (chC p.1 p.2).toList ∧ Lim p.1 ∧ ∃ Ak ck, p.2 = .slice Ak p.1.key.length ck ∧ p.1.key.length ≤ ck ∧ Shows cel W W.heap.size Ak p.1.key)
    (fun n cs y hl hf hb => change_at hl hf hb) h hB
  simp only [List.cons.injEq, and_true] at e
  have at1 : ∀ (i : Nat) ch kv, (l.map (·.1))[i]? = some ch → (l.map (·.2))[i]? = some kv → l[i]? = some (ch, kv) := fun i ch kv ha hb => by
    rw [List.getElem?_map, Option.map_eq_some_iff] at ha hb
    obtain ⟨p, hp, rfl⟩ := ha
    obtain ⟨p', hp', rfl⟩ := hb
    rw [hp] at hp'
    injection hp' with hp'
    subst hp'
    exact hp
  refine ⟨l.map (·.1), l.map (·.2), A, cap, by rw [List.length_map]; exact e, by rw [List.length_map]; exact h1, by rw [List.length_map]; exact h2, ⟨by simp, fun hp => ?_, fun i ch kv hc hk => (h3 i _ (at1 i ch kv hc hk)).2.2⟩, fun ch hch => ?_⟩
  · rw [List.length_map] at hp
    obtain ⟨b, o, rfl, hb, hc⟩ := h4 hp
    refine ⟨b, o, rfl, hb, fun i ch kv hch hkv j u hu => ?_⟩
    have hp := at1 i ch kv hch hkv
    exact hc i _ hp j u (by rw [(h3 i _ hp).1, Array.getElem?_toList]; exact hu)
  · obtain ⟨p, hp, rfl⟩ := List.mem_map.1 hch
    obtain ⟨i, hi⟩ := List.mem_iff_getElem?.1 hp
    exact (h3 i p hi).2.1
theorem op_at {n : Nat} {cs : List Value} {y : DataW H × List MemPlace} (hl : cs.length = 14) (hf : DataW.trod enc Tryz.prog W base sp held n 108 cs = some y) (hB : Rows.uptoBulk y.1 ≤ 1048576) :
    ∃ q : Opp × Opv, cs = (opC q.1 q.2.dv q.2.cv q.2.fv q.2.bv).toList ∧ LimO q.1 ∧ ShOp W q.1 q.2.dv q.2.cv q.2.fv q.2.bv q.2.kvs := by
  match cs, hl with
  | [c0, c1, c2, c3, c4, c5, c6, c7, c8, c9, c10, c11, c12, c13], _ =>
    obtain ⟨z0, z1, z2, z3, z4, z5, z6, z7, z8, z9, z10, z11, k, hy, k0, k1, k2, k3, k4, k5, k6, k7, k8, k9, k10, k11⟩ := trod_s12 Tryz.underlying108 hf
    rw [hy] at hB
    · simp only [cI, cSB, cSt, cPa, cSC, cSF, cSO, List.drop_zero, List.take_succ_cons, List.take_zero, List.drop_succ_cons] at k0 k1 k2 k3 k4 k5 k6 k7 k8 k9 k10 k11
      obtain ⟨kd, rfl, -⟩ := i64_at k0
      obtain ⟨a, rfl, -⟩ := i64_at k1
      obtain ⟨kk, rfl, -⟩ := i64_at k2
      obtain ⟨t, rfl, -⟩ := i64_at k3
      obtain ⟨x, rfl, -⟩ := i64_at k4
      obtain ⟨lk, rfl, -⟩ := i64_at k5
      obtain ⟨data, A1, p1, rfl, g1, g2, g3⟩ := open_u8 k6 (bk_field z6 [z0, z1, z2, z3, z4, z5, z6, z7, z8, z9, z10, z11] (by simp) hB)
      obtain ⟨y0, y1, m, -, -, s0, s1⟩ := trod_struct2 Tryz.underlying102 k7
      simp only [cI, List.drop_zero, List.take_succ_cons, List.take_zero, List.drop_succ_cons] at s0 s1
      obtain ⟨sec, rfl, hs1, hs2⟩ := i64_at s0
      obtain ⟨nano, rfl, -⟩ := i64_at s1
      obtain ⟨y2, y3, m2, -, -, r0, r1⟩ := trod_struct2 Tryz.underlying104 k8
      simp only [cI, List.drop_zero, List.take_succ_cons, List.take_zero, List.drop_succ_cons] at r0 r1
      obtain ⟨blk, rfl, -⟩ := i64_at r0
      obtain ⟨wid, rfl, -⟩ := i64_at r1
      obtain ⟨chs, kvs, A2, p2, rfl, i1, i2, i3, i4⟩ := open_ch k9 (bk_field z9 [z0, z1, z2, z3, z4, z5, z6, z7, z8, z9, z10, z11] (by simp) hB)
      obtain ⟨fls, A3, p3, rfl, j1, j2, j3⟩ := open_fl k10 (bk_field z10 [z0, z1, z2, z3, z4, z5, z6, z7, z8, z9, z10, z11] (by simp) hB)
      obtain ⟨keep, A4, p4, rfl, l1, l2, l3⟩ := open_bo k11 (bk_field z11 [z0, z1, z2, z3, z4, z5, z6, z7, z8, z9, z10, z11] (by simp) hB)
      exact ⟨(⟨kd, a, kk, t, x, lk, data, sec, nano, blk, wid, chs, fls, keep⟩, ⟨.slice A1 data.length p1, .slice A2 chs.length p2, .slice A3 fls.length p3, .slice A4 keep.length p4, kvs, 0, 0⟩), rfl,
        ⟨hs2, by simp only; omega, by simp only; omega, by simp only; omega, by simp only; omega, i4⟩, ⟨A1, p1, rfl, g1, g3⟩, ⟨A2, p2, rfl, i1, i3⟩, ⟨A3, p3, rfl, j1, j3⟩, ⟨A4, p4, rfl, l1, l3⟩⟩
theorem open_op {fuel : Nat} {c : Value} {x : DataW H × List MemPlace} (h : DataW.trod enc Tryz.prog W base sp held fuel 58 [c] = some x) (hB : Rows.uptoBulk x.1 ≤ 1048576) :
    ∃ (l : List Opp) (vs : List Opv) (A : Option Addr) (cap : Nat), c = .slice A l.length cap ∧ l.length ≤ cap ∧ l.length ≤ 1048576 ∧ ShO W A l vs ∧ ∀ o ∈ l, LimO o := by
  obtain ⟨l, A, cap, q, e, h1, h2, h3, h4⟩ := open_list (α := Opp × Opv) Tryz.underlying58 cOp (by omega) (fun p cs => cs = (opC p.1 p.2.dv p.2.cv p.2.fv p.2.bv).toList ∧ LimO p.1 ∧ ShOp W p.1 p.2.dv p.2.cv p.2.fv p.2.bv p.2.kvs)
    (fun n cs y hl hf hb => op_at hl hf hb) h hB
  simp only [List.cons.injEq, and_true] at e
  have at1 : ∀ (i : Nat) o v, (l.map (·.1))[i]? = some o → (l.map (·.2))[i]? = some v → l[i]? = some (o, v) := fun i ch kv ha hb => by
    rw [List.getElem?_map, Option.map_eq_some_iff] at ha hb
    obtain ⟨p, hp, rfl⟩ := ha
    obtain ⟨p', hp', rfl⟩ := hb
    rw [hp] at hp'
    injection hp' with hp'
    subst hp'
    exact hp
  refine ⟨l.map (·.1), l.map (·.2), A, cap, by rw [List.length_map]; exact e, by rw [List.length_map]; exact h1, by rw [List.length_map]; exact h2, ⟨by simp, fun hp => ?_, fun i ch kv hc hk => (h3 i _ (at1 i ch kv hc hk)).2.2⟩, fun ch hch => ?_⟩
  · rw [List.length_map] at hp
    obtain ⟨b, o, rfl, hb, hc⟩ := h4 hp
    refine ⟨b, o, rfl, hb, fun i ch kv hch hkv j u hu => ?_⟩
    have hp := at1 i ch kv hch hkv
    exact hc i _ hp j u (by rw [(h3 i _ hp).1, Array.getElem?_toList]; exact hu)
  · obtain ⟨p, hp, rfl⟩ := List.mem_map.1 hch
    obtain ⟨i, hi⟩ := List.mem_iff_getElem?.1 hp
    exact (h3 i p hi).2.1
set_option maxRecDepth 100000 in
theorem open_script {v : Value} {d : DataW H} {p : List MemPlace} {r : Reach} {b0 : Nat} (hv : Value.okWide Tryz.prog W r b0 60 v) (h : DataW.Trod enc Tryz.prog W base sp held 60 v d p) (hB : Rows.uptoBulk d ≤ 1048576) :
    ∃ (sec : Int) (l : List Opp) (vs : List Opv) (A : Option Addr) (cap : Nat), v = .agg #[.int .i64 sec, .slice A l.length cap] ∧ -9223372036854775808 ≤ sec ∧ sec ≤ 9223372036854775807 ∧ l.length ≤ cap ∧ l.length ≤ 1048576 ∧ ShO W A l vs ∧ ∀ o ∈ l, LimO o := by
  obtain ⟨cs, rfl, hsz⟩ := okWide_struct Tryz.underlying60 hv
  have hsz2 : cs.toList.length = 2 := by rw [Array.length_toList]; exact hsz.trans cScr
  obtain ⟨fuel, hf⟩ := h
  obtain ⟨cs⟩ := cs
  match cs, hsz2 with
  | [c0, c1], _ =>
    obtain ⟨y0, y1, m, hx, -, h0, h1⟩ := trod_struct2 Tryz.underlying60 hf
    simp only [Value.cells, cI, cSS, List.drop_zero, List.take_succ_cons, List.take_zero, List.drop_succ_cons] at h0 h1
    obtain ⟨sec, rfl, b1, b2⟩ := i64_at h0
    have hd : d = .agg [y0.1, y1.1] := congrArg Prod.fst hx
    obtain ⟨l, vs, A, cap, rfl, g1, g2, g3, g4⟩ := open_op h1 (Nat.le_trans (bk_agg (l := [y0.1, y1.1]) (by simp)) (by rw [← hd]; exact hB))
    exact ⟨sec, l, vs, A, cap, rfl, b1, b2, g1, g2, g3, g4⟩

end Go.Proofs.YtpkmekdpmkfcdaaGreatDoor.Fr
