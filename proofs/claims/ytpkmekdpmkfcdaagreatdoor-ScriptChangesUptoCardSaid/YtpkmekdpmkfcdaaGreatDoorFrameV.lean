/- A list of changes of a bounded bulk, opened: with the keys' bound. -/
import Derived.Test.YtpkmekdpmkfcdaaGreatDoorFrameU
namespace Go.Proofs.YtpkmekdpmkfcdaaGreatDoor.Fr
set_option linter.unusedVariables false
set_option linter.unusedSimpArgs false
open Go.ChangeShapes Go.WideShapes Go.ChangeAt Go.RowKit Go.Deep Go.Proofs.YtpkmekdpmkfcdaaGreatDoor.En Go.Proofs.YtpkmekdpmkfcdaaGreatDoor.Wd Go.Proofs.YtpkmekdpmkfcdaaGreatDoor.Sc Go.Proofs.YtpkmekdpmkfcdaaGreatDoor.Sr
variable {H : Type} {enc : TypeId × Value → H} {W : World} {base : Nat} {sp : Nat → Bool} {held : Bool}

theorem change_atk {n : Nat} {cs : List Value} {y : DataW H × List MemPlace} (hl : cs.length = 8) (hf : DataW.trod enc Tryz.prog W base sp held n 92 cs = some y) (hB : Rows.uptoBulk y.1 ≤ 1048576) :
    ∃ q : Chg × Value, cs = (chC q.1 q.2).toList ∧ (Lim q.1 ∧ q.1.key.length ≤ 1048576) ∧ ∃ Ak ck, q.2 = .slice Ak q.1.key.length ck ∧ q.1.key.length ≤ ck ∧ Shows cel W W.heap.size Ak q.1.key := by
  match cs, hl with
  | [c0, c1, c2, c3, c4, c5, c6, c7], _ =>
    obtain ⟨z0, z1, z2, z3, z4, k, hy, k0, k1, k2, k3, k4⟩ := trod_s5 Tryz.underlying92 hf
    rw [hy] at hB
    · simp only [cI, cSB, cP, List.drop_zero, List.take_succ_cons, List.take_zero, List.drop_succ_cons] at k0 k1 k2 k3 k4
      obtain ⟨kd, rfl, -⟩ := i64_at k0
      obtain ⟨lk, rfl, -⟩ := i64_at k1
      obtain ⟨sd, rfl, -⟩ := i64_at k2
      obtain ⟨key, Ak, ck, rfl, g1, g2, g3⟩ := open_u8 k3 (bk_field z3 [z0, z1, z2, z3, z4] (by simp) hB)
      obtain ⟨f, hi, lo, b, e, b1, b2⟩ := prefix_at (by simp) k4
      simp only [List.cons.injEq, and_true] at e
      obtain ⟨rfl, rfl, rfl, rfl⟩ := e
      exact ⟨(⟨kd, lk, sd, key, f, hi, lo, b⟩, .slice Ak key.length ck), rfl, ⟨⟨by simp only; omega, b1, b2⟩, g2⟩, Ak, ck, rfl, g1, g3⟩
theorem open_chk {fuel : Nat} {c : Value} {x : DataW H × List MemPlace} (h : DataW.trod enc Tryz.prog W base sp held fuel 22 [c] = some x) (hB : Rows.uptoBulk x.1 ≤ 1048576) :
    ∃ (l : List Chg) (kvs : List Value) (A : Option Addr) (cap : Nat), c = .slice A l.length cap ∧ l.length ≤ cap ∧ l.length ≤ 1048576 ∧ ShC W A l kvs ∧ ∀ c ∈ l, Lim c ∧ c.key.length ≤ 1048576 := by
  obtain ⟨l, A, cap, q, e, h1, h2, h3, h4⟩ := open_list (α := Chg × Value) Tryz.underlying22 cCh (by omega) (fun p cs => cs = (chC p.1 p.2).toList ∧ (Lim p.1 ∧ p.1.key.length ≤ 1048576) ∧ ∃ Ak ck, p.2 = .slice Ak p.1.key.length ck ∧ p.1.key.length ≤ ck ∧ Shows cel W W.heap.size Ak p.1.key)
    (fun n cs y hl hf hb => change_atk hl hf hb) h hB
  simp only [List.cons.injEq, and_true] at e
  have at1 : ∀ (i : Nat) ch kv, (l.map (·.1))[i]? = some ch → (l.map (·.2))[i]? = some kv → l[i]? = some (ch, kv) := fun i ch kv ha hb => by
    rw [List.getElem?_map, Option.map_eq_some_iff] at ha hb
    obtain ⟨p, hp, rfl⟩ := ha
    obtain ⟨p', hp', rfl⟩ := hb
    rw [hp] at hp'
    injection hp' with hp'
    subst hp'
    exact hp
  refine ⟨l.map (·.1), l.map (·.2), A, cap, by rw [List.length_map]; exact e, by rw [List.length_map]; exact h1, by rw [List.length_map]; exact h2, ⟨by simp, fun hp => ?_, fun i ch kv hc hk => (h3 i _ (at1 i ch kv hc hk)).2.2⟩, fun ch hch => ?_⟩
  · rw [List.length_map] at hp
    obtain ⟨b, o, rfl, hb, hc⟩ := h4 hp
    refine ⟨b, o, rfl, hb, fun i ch kv hch hkv j u hu => ?_⟩
    have hp := at1 i ch kv hch hkv
    exact hc i _ hp j u (by rw [(h3 i _ hp).1, Array.getElem?_toList]; exact hu)
  · obtain ⟨p, hp, rfl⟩ := List.mem_map.1 hch
    obtain ⟨i, hi⟩ := List.mem_iff_getElem?.1 hp
    exact (h3 i p hi).2.1
theorem open_chv {v : Value} {d : DataW H} {p : List MemPlace} (hv : ∃ a len cap, v = .slice a len cap) (h : DataW.Trod enc Tryz.prog W base sp held 22 v d p) (hB : Rows.uptoBulk d ≤ 1048576) :
    ∃ (l : List Chg) (kvs : List Value) (A : Option Addr) (cap : Nat), v = .slice A l.length cap ∧ l.length ≤ cap ∧ l.length ≤ 1048576 ∧ ShC W A l kvs ∧ ∀ c ∈ l, Lim c ∧ c.key.length ≤ 1048576 := by
  obtain ⟨a, len, cap, rfl⟩ := hv
  obtain ⟨fuel, hf⟩ := h
  have hf : DataW.trod enc Tryz.prog W base sp held fuel 22 [.slice a len cap] = some (d, p) := by simpa [Value.cells] using hf
  exact open_chk (x := (d, p)) hf hB
end Go.Proofs.YtpkmekdpmkfcdaaGreatDoor.Fr
