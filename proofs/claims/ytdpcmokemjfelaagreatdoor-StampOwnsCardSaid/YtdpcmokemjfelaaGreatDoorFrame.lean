/- What the rows' listed variables give the walks, and a start that meets the list. -/
import Derived.Test.YtdpcmokemjfelaaGreatDoorRows
import Derived.Test.YtdpcmokemjfelaaGreatDoorEnv
import Derived.WalkKit
import Derived.ProofKit
import Derived.OpenShut
import Derived.LaidMore
import Derived.Stop.Joined
import Derived.Stop.LaidErr
import Derived.Lib.LaidTab
import Derived.Lib.SmallJoins
import Derived.ShutString
import Derived.ChangeOld
namespace Go.Proofs.YtdpcmokemjfelaaGreatDoor.Fr
open Go.ChangeShapes Go.WideShapes Go.ChangeAt Go.RowKit Go.Proofs.YtdpcmokemjfelaaGreatDoor.En Go.Proofs.YtdpcmokemjfelaaGreatDoor.Wd

theorem own : ownKnob Tryz.prog.godebug = none := by kernel_rfl
theorem laidOut : laidOutB Tryz.prog = true := by kernel_rfl

def listed : List (String × DataW Unit) := [("math/bits.deBruijn32tab", Rows.laid_math_bits_deBruijn32tab), ("math/bits.deBruijn64tab", Rows.laid_math_bits_deBruijn64tab), ("internal/strconv.uint64pow10", Rows.laid_internal_strconv_uint64pow10), ("strconv.ErrRange", Rows.laid_strconv_ErrRange), ("strconv.ErrSyntax", Rows.laid_strconv_ErrSyntax)]

theorem gTab : Tryz.prog.globalNamed "internal/strconv.uint64pow10" = some 2 := by kernel_rfl
theorem gTabT : (Tryz.prog.globals[2]?).map (·.type) = some 193 := by kernel_rfl
theorem gSyn : Tryz.prog.globalNamed "strconv.ErrSyntax" = some 0 := by kernel_rfl
theorem gSynT : (Tryz.prog.globals[0]?).map (·.type) = some 68 := by kernel_rfl
theorem gRan : Tryz.prog.globalNamed "strconv.ErrRange" = some 1 := by kernel_rfl
theorem gRanT : (Tryz.prog.globals[1]?).map (·.type) = some 68 := by kernel_rfl
theorem cU64 : Tryz.prog.cellsOf 66 = 1 := by kernel_rfl
theorem cTab : Tryz.prog.cellsOf 193 = 20 := by kernel_rfl
theorem cStr : Tryz.prog.cellsOf 9 = 1 := by kernel_rfl
theorem cErr : Tryz.prog.cellsOf 203 = 1 := by kernel_rfl
theorem star : "*" ++ "errors.errorString" = "*errors.errorString" := by decide
theorem rowErr (u : TypeId) (h : Tryz.prog.typeName? 3 u = some "*errors.errorString") : u = 201 :=
  typeName_ptr_named (nm := "errors.errorString") (by rw [star]; kernel_rfl) (by kernel_rfl) (by decide) u (by rw [star]; exact h)

theorem env_of {W : World} (h : laidMetH Tryz.prog listed W) : Env W := by
  rw [MakeChecks.laidMetH_plain _ _ _ (by kernel_rfl)] at h
  have hT : laidMet Tryz.prog (("internal/strconv.uint64pow10", Lib.tabData .u64 Lib.pow10Tab) :: [("strconv.ErrRange", Rows.laid_strconv_ErrRange), ("strconv.ErrSyntax", Rows.laid_strconv_ErrSyntax)]) W := h.tail.tail
  obtain ⟨a0, s0, hv0, -, -, -⟩ := laid_sentinel (n := "strconv.ErrRange") (r := [("strconv.ErrSyntax", Rows.laid_strconv_ErrSyntax)]) hT.tail gRan gRanT Tryz.underlying68 rowErr Tryz.underlying201 Tryz.underlying203 rfl rfl Tryz.underlying9 cErr cStr
  obtain ⟨a1, s1, hv1, -, -, -⟩ := laid_sentinel (n := "strconv.ErrSyntax") (r := []) hT.tail.tail gSyn gSynT Tryz.underlying68 rowErr Tryz.underlying201 Tryz.underlying203 rfl rfl Tryz.underlying9 cErr cStr
  exact ⟨Lib.tabIs_of_head gTab gTabT Tryz.underlying193 Tryz.underlying66 cU64 cTab hT, ⟨_, _, hv1⟩, ⟨_, _, hv0⟩⟩

set_option maxRecDepth 100000 in
theorem door_met (os : Os) (args : Array Value) : laidMetH Tryz.prog listed ((World.doorLaid Tryz.prog 62 os).forCall (fun _ _ => 0) ⟨#[], args, []⟩).memory :=
  laidMetH_of_parts3 (fuel := 8) (laidMet_of_run' 8 (by kernel_rfl) (by kernel_rfl)) (by kernel_rfl) (by kernel_rfl)

theorem cBy : Tryz.prog.cellsOf 5 = 1 := by kernel_rfl
theorem bBy : Tryz.prog.bytesOf 5 = 1 := by kernel_rfl

/-- an argument that is a list of bytes -/
theorem open_bytes {H : Type} {enc : TypeId × Value → H} {W : World} {base : Nat} {sp : Nat → Bool} {held : Bool} {a : Option Addr} {len cap : Nat} {d : DataW H} {p : List MemPlace}
    (h : DataW.Trod enc Tryz.prog W base sp held 44 (.slice a len cap) d p) :
    ∃ l : List UInt8, len = l.length ∧ Shows cel W W.heap.size a l ∧ (d = .nil ∧ l = [] ∨ ∃ el spare, d = .slice el spare ∧ el.length = l.length) := by
  obtain ⟨fuel, hf⟩ := h
  rcases open_ints Tryz.underlying44 Tryz.underlying5 cBy hf with ⟨hcs, hx⟩ | ⟨x, l, c, zs, hcs, _, hl, hm, hz, hx, hcell, hwz⟩
  · simp [Value.cells] at hcs
    obtain ⟨rfl, rfl, rfl⟩ := hcs
    simp only [Prod.mk.injEq] at hx
    exact ⟨[], rfl, Shows.nil, .inl ⟨hx.1, rfl⟩⟩
  · simp [Value.cells] at hcs
    obtain ⟨rfl, rfl, rfl⟩ := hcs
    simp only [Prod.mk.injEq] at hx
    have hzl : len ≤ zs.length := by rw [hz]; split <;> omega
    have hlen : ((zs.take len).map fun z => UInt8.ofNat z.toNat).length = len := by simp; omega
    refine ⟨(zs.take len).map fun z => UInt8.ofNat z.toNat, hlen.symm, ?_, .inr ⟨_, _, hx.1, by rw [hlen]; unfold lits; rw [List.length_map, List.length_take]; omega⟩⟩
    intro hpos
    rw [hlen] at hpos
    have hc0 := hcell 0 (by omega)
    obtain ⟨b, off, spot⟩ := x
    have hspot : spot = none := by simpa [Addr.add] using World.cell?_spot hc0
    subst hspot
    refine ⟨b, off, rfl, World.block_lt_of_cell? W _ (by simpa [Addr.add] using hc0), fun i u hu => ?_⟩
    have hi : i < len := by
      have := (List.getElem?_eq_some_iff.1 hu).1
      rwa [hlen] at this
    have hci := hcell i (by omega)
    have hadd : (⟨b, off, none⟩ : Addr).add i = ⟨b, off + i, none⟩ := by
      unfold Addr.add
      split
      · rename_i h0; subst h0; rfl
      · rfl
    rw [hadd] at hci
    rw [hci]
    have hg : zs[i]? = some (zs.getD i 0) := by rw [List.getD_eq_getElem?_getD, List.getElem?_eq_getElem (by omega)]; rfl
    have hb := bounds_u8 (hwz (zs.getD i 0) (List.mem_of_getElem? hg))
    rw [List.getElem?_map, List.getElem?_take, if_pos hi, hg, Option.map_some] at hu
    injection hu with hu
    rw [← hu]
    unfold cel
    rw [UInt8.toNat_ofNat', Nat.mod_eq_of_lt (by omega)]
    congr 2
    omega

end Go.Proofs.YtdpcmokemjfelaaGreatDoor.Fr
