/- What the library's variables hold, told of a world, and strconv.Itoa, strconv.Atoi over it. -/
import Derived.Test.YtpkmekdpmkfcdaaGreatDoorShelf
import Derived.Test.YtpkmekdpmkfcdaaGreatDoorWords
import Derived.Test.YtpkmekdpmkfcdaaGreatDoorStampPlain
import Derived.Lib.AppendIntMem
import Derived.Lib.ItoaMem
import Derived.Lib.AtoiErrMem
namespace Go.Proofs.YtpkmekdpmkfcdaaGreatDoor.En
open Go.RowKit Go.Proofs.YtpkmekdpmkfcdaaGreatDoor.Wd Go.Proofs.YtpkmekdpmkfcdaaGreatDoor.Pl
/-- a variable holds behind a call what it held before -/
theorem var_on {P : Program} {w w' : World} {name : String} {cs : Array Value} (h : w.var? P name = some cs) (hb : Below w.heap.size w w') : w'.var? P name = some cs := by
 unfold World.var? at *
 cases hg : P.globalNamed name with
 | none => simp [hg] at h
 | some g =>
  simp only [hg,Option.bind_some] at h ⊢
  have hlt : g < w.heap.size := by
   rcases Nat.lt_or_ge g w.heap.size with h' | h'
   ·exact h'
   ·rw [Array.getElem?_eq_none h'] at h;simp at h
  rw [hb.block g hlt]
  exact h
/-- the table of powers of ten and the two sentinels are as the initialisers lay them -/
structure Env (w : World) : Prop where
 tab : Lib.TabIs Tryz.prog w "internal/strconv.uint64pow10" .u64 Lib.pow10Tab
 syn : ∃ tp p,w.var? Tryz.prog "strconv.ErrSyntax" = some #[.iface tp p]
 ran : ∃ tp p,w.var? Tryz.prog "strconv.ErrRange" = some #[.iface tp p]
theorem Env.on {w w' : World} (h : Env w) (hb : Below w.heap.size w w') : Env w' := by
 obtain ⟨h1,⟨a,b,h2⟩,⟨c,d,h3⟩⟩ := h
 exact ⟨var_on h1 hb,⟨a,b,var_on h2 hb⟩,⟨c,d,var_on h3 hb⟩⟩
theorem itoa_any (n : Int) (w : World) (h0 : 0 ≤ n) (h1 : n ≤ 9223372036854775807) (hE : Env w) :
  Calls Tryz.prog 55 #[.int .i64 n] w fun e w' => e = .returned (.string ⟨(Lib.decDigits n.toNat).toArray⟩) ∧ Below w.heap.size w w' := by
 refine (Tryz.strconv_Itoa n (by omega) h1 w hE.tab).mono ?_
 rintro e w' ⟨rfl,k,os,rfl⟩
 refine ⟨?_,Lib.below_grow _ _ (Nat.le_refl _) _ _⟩
 unfold Lib.itoa
 rw [if_neg (by omega)]
/-- strconv.Atoi: a number and no error, or some number and an error -/
theorem atoi_any (s : ByteArray) (w : World) (hs : s.size ≤ 140737488355328) (hE : Env w) :
  Calls Tryz.prog 228 #[.string s] w fun e w' => ((∃ v,Lib.atoiAll s.data.toList = .ok v ∧ e = .returned (.tuple #[.int .i64 v,.nilIface])) ∨
   ((∀ v,Lib.atoiAll s.data.toList ≠ .ok v) ∧ ∃ v N,-9223372036854775808 ≤ v ∧ v ≤ 9223372036854775807 ∧ e = .returned (.tuple #[.int .i64 v,.iface 316 (.pointer (some ⟨N,0,none⟩))]))) ∧ Below w.heap.size w w' := by
 cases h : Lib.atoiAll s.data.toList
 ·rename_i v
  refine (Tryz.strconv_Atoi_ok s (by omega) v h w).mono ?_
  rintro e w' ⟨rfl,hw⟩
  refine ⟨.inl ⟨v,rfl,rfl⟩,?_⟩
  rcases hw with rfl | ⟨t,rfl⟩
  ·exact Below.refl _ _
  ·exact Lib.bytesWorld_below _ _ _
 ·obtain ⟨tp,p,hv⟩ := hE.syn
  refine Calls.mono (P := Tryz.prog) (f := 228) (Go.Proofs.Any.strconv_Atoi_syntax_var Tryz.laysC172 s (by omega) h tp p w hv) ?_
  rintro e w' ⟨N,rfl,-,-,hb⟩
  exact ⟨.inr ⟨fun v hv => (by cases hv),0,N,by omega,by omega,rfl⟩,hb⟩
 ·obtain ⟨tp,p,hv⟩ := hE.ran
  refine Calls.mono (P := Tryz.prog) (f := 228) (Go.Proofs.Any.strconv_Atoi_range_var Tryz.laysC172 s (by omega) h tp p w hv) ?_
  rintro e w' ⟨N,rfl,-,-,hb⟩
  have := Lib.atoiSat_bounds s.data.toList
  exact ⟨.inr ⟨fun v hv => (by cases hv),_,N,by omega,by omega,rfl⟩,hb⟩
end Go.Proofs.YtpkmekdpmkfcdaaGreatDoor.En
