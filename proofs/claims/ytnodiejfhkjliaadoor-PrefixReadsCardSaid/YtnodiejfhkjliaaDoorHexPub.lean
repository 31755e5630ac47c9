/- Contracts: strconv.ParseUint at base 16 and 16 bits, at base 10 and 8 bits, for every text: a number, or an error that is not nil. -/
import Derived.Test.YtnodiejfhkjliaaDoorHexParse
namespace Go.Proofs.YtnodiejfhkjliaaDoor.En
open Go.RowKit Go.Proofs.YtnodiejfhkjliaaDoor.Wd Go.Proofs.YtnodiejfhkjliaaDoor.Px

/-- what strconv.ParseUint answers: a number and no error, or some number and an error -/
def pu (o : Option Nat) (e : Ending) : Prop := match o with
  | some u => e = .returned (.tuple #[.int .u64 (u : Int), .nilIface])
  | none => ∃ (u : Int) (N : Nat), e = .returned (.tuple #[.int .u64 u, .iface 115 (.pointer (some ⟨N, 0, none⟩))])

theorem inner16_all (t : ByteArray) (hmax : t.size ≤ 140737488355328) (w : World) :
    Calls Tryd.prog 79 #[.string t, .int .i64 16, .int .i64 16] w fun e w' => inner16 (v16 t.data.toList) e ∧ Below w.heap.size w w' := by
  by_cases h0 : t.size = 0
  · have ht : t = ⟨#[]⟩ := by
      apply ByteArray.ext
      exact Array.eq_empty_of_size_eq_zero h0
    subst ht
    refine (AnyPu.internal_strconv_ParseUint_empty { Tryd.laysPu14 with } 16 16 w).mono ?_
    rintro e w' ⟨rfl, rfl⟩
    exact ⟨.inl rfl, Below.refl _ _⟩
  · have hne : t.data.toList ≠ [] := fun h => h0 (by
      have : t.data.toList.length = 0 := by rw [h]; rfl
      simpa using this)
    refine (inner16_any t h0 hmax w).mono ?_
    rintro e w' ⟨he, rfl⟩
    refine ⟨?_, Lib.bytesWorld_below _ _ _⟩
    unfold v16
    rw [if_neg hne]
    exact he

theorem toerr2 (s : ByteArray) (base bits : Int) (w : World) (hE : Env w) (hs : s.size ≤ 140737488355328) :
    Calls Tryd.prog 80 #[.string ⟨#[80, 97, 114, 115, 101, 85, 105, 110, 116]⟩, .string s, .int .i64 base, .int .i64 bits, .iface 113 (.int .i64 2)] w fun e w' => (∃ N, e = .returned (.iface 115 (.pointer (some ⟨N, 0, none⟩)))) ∧ Below w.heap.size w w' := by
  obtain ⟨tp, p, hv⟩ := hE.syn
  refine Calls.mono (P := Tryd.prog) (f := 80) (AnyPu.strconv_toError_syntax { Tryd.laysPu14 with } ⟨#[80, 97, 114, 115, 101, 85, 105, 110, 116]⟩ s base bits (.iface tp p) w (by omega) (by have h0 := World.var?_cell Tryd.laysPu14.m0 hv 0; simpa using h0) (.inr ⟨tp, p, rfl⟩)) ?_
  rintro e w' ⟨N, rfl, -, -, hb⟩
  exact ⟨⟨N, rfl⟩, hb⟩
theorem toerr1 (s : ByteArray) (base bits : Int) (w : World) (hE : Env w) (hs : s.size ≤ 140737488355328) :
    Calls Tryd.prog 80 #[.string ⟨#[80, 97, 114, 115, 101, 85, 105, 110, 116]⟩, .string s, .int .i64 base, .int .i64 bits, .iface 113 (.int .i64 1)] w fun e w' => (∃ N, e = .returned (.iface 115 (.pointer (some ⟨N, 0, none⟩)))) ∧ Below w.heap.size w w' := by
  obtain ⟨tp, p, hv⟩ := hE.ran
  refine Calls.mono (P := Tryd.prog) (f := 80) (AnyPu.strconv_toError_range { Tryd.laysPu14 with } ⟨#[80, 97, 114, 115, 101, 85, 105, 110, 116]⟩ s base bits (.iface tp p) w (by omega) (by have h0 := World.var?_cell Tryd.laysPu14.m1 hv 0; simpa using h0) (.inr ⟨tp, p, rfl⟩)) ?_
  rintro e w' ⟨N, rfl, -, -, hb⟩
  exact ⟨⟨N, rfl⟩, hb⟩

set_option maxRecDepth 20000 in
set_option maxHeartbeats 2000000 in
theorem parse16_any (s : ByteArray) (hs : s.size ≤ 140737488355328) (w : World) (hE : Env w) :
    Calls Tryd.prog 53 #[.string s, .int .i64 16, .int .i64 16] w fun e w' => pu (v16 s.data.toList) e ∧ Below w.heap.size w w' := by
  obtain ⟨o, ho⟩ : ∃ o, v16 s.data.toList = o := ⟨_, rfl⟩
  have HO := Lib.hid ho
  rw [ho]
  clear ho
  go_enter Tryd.func53, Tryd.ntmps53
  go_wp2_with fail
  refine (inner16_all s hs w).mono ?_
  rintro e w1 ⟨he, hb⟩
  rw [HO.out] at he
  cases o with
  | some u =>
    obtain rfl := he
    go_wp2
    go_ret2
    exact ⟨rfl, hb⟩
  | none =>
    have hE1 := hE.on hb
    rcases he with rfl | rfl
    · go_wp2_with fail
      refine (toerr2 s 16 16 _ hE1 hs).mono ?_
      rintro e w2 ⟨⟨N, rfl⟩, hb2⟩
      have hb3 := hb.trans (hb2.mono hb.size)
      go_wp2
      go_ret2
      exact ⟨⟨_, _, rfl⟩, hb3⟩
    · go_wp2_with fail
      refine (toerr1 s 16 16 _ hE1 hs).mono ?_
      rintro e w2 ⟨⟨N, rfl⟩, hb2⟩
      have hb3 := hb.trans (hb2.mono hb.size)
      go_wp2
      go_ret2
      exact ⟨⟨_, _, rfl⟩, hb3⟩

/-- what a row of decimal digits spells, if it is less than 2^8 -/
def v8 (l : List UInt8) : Option Nat := match Lib.parseUintB 8 l with
  | .ok u => some u
  | _ => none
theorem parse8_any (s : ByteArray) (hs : s.size ≤ 140737488355328) (w : World) (hE : Env w) :
    Calls Tryd.prog 53 #[.string s, .int .i64 10, .int .i64 8] w fun e w' => pu (v8 s.data.toList) e ∧ Below w.heap.size w w' := by
  unfold v8
  cases h : Lib.parseUintB 8 s.data.toList
  · rename_i u
    refine (Tryd.strconv_ParseUint_10_at8_ok s (by omega) u h w).mono ?_
    rintro e w' ⟨rfl, hw⟩
    refine ⟨rfl, ?_⟩
    rcases hw with rfl | rfl
    · exact Below.refl _ _
    · exact Lib.bytesWorld_below _ _ _
  · obtain ⟨tp, p, hv⟩ := hE.syn
    refine Calls.mono (P := Tryd.prog) (f := 53) (Go.Proofs.Any.strconv_ParseUint_10_at8_syntax_var Tryd.laysPu14 s (by omega) h tp p w hv) ?_
    rintro e w' ⟨N, rfl, -, -, hb⟩
    exact ⟨⟨_, _, rfl⟩, hb⟩
  · obtain ⟨tp, p, hv⟩ := hE.ran
    refine Calls.mono (P := Tryd.prog) (f := 53) (Go.Proofs.Any.strconv_ParseUint_10_at8_range_var Tryd.laysPu14 s (by omega) h tp p w hv) ?_
    rintro e w' ⟨N, rfl, -, -, hb⟩
    exact ⟨⟨_, _, rfl⟩, hb⟩

end Go.Proofs.YtnodiejfhkjliaaDoor.En
