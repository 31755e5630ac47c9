/- What the rows' listed variables give the walks (the script's tables too), and a start that meets the list. -/
import Derived.Test.YtpkmekdpmkfcdaaGreatDoorRows
import Derived.Test.YtpkmekdpmkfcdaaGreatDoorEnv
import Derived.Test.YtpkmekdpmkfcdaaGreatDoorSmB
import Derived.Lib.LaidU8
import Derived.WalkKit
import Derived.ProofKit
import Derived.OpenShut
import Derived.LaidMore
import Derived.Stop.Joined
import Derived.Stop.LaidErr
import Derived.Lib.LaidTab
import Derived.Lib.SmallJoins
import Derived.ShutString
import Derived.ChangeOld
namespace Go.Proofs.YtpkmekdpmkfcdaaGreatDoor.Fr
set_option linter.unusedVariables false
set_option linter.unusedSimpArgs false
open Go.ChangeShapes Go.WideShapes Go.ChangeAt Go.RowKit Go.Proofs.YtpkmekdpmkfcdaaGreatDoor.En Go.Proofs.YtpkmekdpmkfcdaaGreatDoor.Wd Go.Proofs.YtpkmekdpmkfcdaaGreatDoor.Sc Go.Proofs.YtpkmekdpmkfcdaaGreatDoor.Sr
theorem own : ownKnob Tryz.prog.godebug = none := by kernel_rfl
theorem laidOut : laidOutB Tryz.prog = true := by kernel_rfl
def listed : List (String × DataW Unit) := [("math/bits.deBruijn32tab",Rows.laid_math_bits_deBruijn32tab),("math/bits.deBruijn64tab",Rows.laid_math_bits_deBruijn64tab),("internal/strconv.uint64pow10",Rows.laid_internal_strconv_uint64pow10),("strconv.ErrRange",Rows.laid_strconv_ErrRange),("strconv.ErrSyntax",Rows.laid_strconv_ErrSyntax),("culvert/script.steps",Rows.laid_culvert_script_steps),("culvert/script.changes",Rows.laid_culvert_script_changes)]
theorem gTab : Tryz.prog.globalNamed "internal/strconv.uint64pow10" = some 3 := by kernel_rfl
theorem gTabT : (Tryz.prog.globals[3]?).map (·.type) = some 320 := by kernel_rfl
theorem gSyn : Tryz.prog.globalNamed "strconv.ErrSyntax" = some 4 := by kernel_rfl
theorem gSynT : (Tryz.prog.globals[4]?).map (·.type) = some 147 := by kernel_rfl
theorem gRan : Tryz.prog.globalNamed "strconv.ErrRange" = some 5 := by kernel_rfl
theorem gRanT : (Tryz.prog.globals[5]?).map (·.type) = some 147 := by kernel_rfl
theorem cU64 : Tryz.prog.cellsOf 86 = 1 := by kernel_rfl
theorem cTab : Tryz.prog.cellsOf 320 = 20 := by kernel_rfl
theorem cStr : Tryz.prog.cellsOf 9 = 1 := by kernel_rfl
theorem cErr : Tryz.prog.cellsOf 334 = 1 := by kernel_rfl
theorem star : "*" ++ "errors.errorString" = "*errors.errorString" := by decide
theorem rowErr (u : TypeId) (h : Tryz.prog.typeName? 3 u = some "*errors.errorString") : u = 332 :=
 typeName_ptr_named (nm := "errors.errorString") (by rw [star];kernel_rfl) (by kernel_rfl) (by decide) u (by rw [star];exact h)
theorem env_of {W : World} (h : laidMetH Tryz.prog listed W) : Env W := by
 rw [MakeChecks.laidMetH_plain _ _ _ (by kernel_rfl)] at h
 have hT : laidMet Tryz.prog (("internal/strconv.uint64pow10",Lib.tabData .u64 Lib.pow10Tab) :: [("strconv.ErrRange",Rows.laid_strconv_ErrRange),("strconv.ErrSyntax",Rows.laid_strconv_ErrSyntax),("culvert/script.steps",Rows.laid_culvert_script_steps),("culvert/script.changes",Rows.laid_culvert_script_changes)]) W := h.tail.tail
 obtain ⟨a0,s0,hv0,-,-,-⟩ := laid_sentinel (n := "strconv.ErrRange") (r := [("strconv.ErrSyntax",Rows.laid_strconv_ErrSyntax),("culvert/script.steps",Rows.laid_culvert_script_steps),("culvert/script.changes",Rows.laid_culvert_script_changes)]) hT.tail gRan gRanT Tryz.underlying147 rowErr Tryz.underlying332 Tryz.underlying334 rfl rfl Tryz.underlying9 cErr cStr
 obtain ⟨a1,s1,hv1,-,-,-⟩ := laid_sentinel (n := "strconv.ErrSyntax") (r := [("culvert/script.steps",Rows.laid_culvert_script_steps),("culvert/script.changes",Rows.laid_culvert_script_changes)]) hT.tail.tail gSyn gSynT Tryz.underlying147 rowErr Tryz.underlying332 Tryz.underlying334 rfl rfl Tryz.underlying9 cErr cStr
 exact ⟨Lib.tabIs_of_head gTab gTabT Tryz.underlying320 Tryz.underlying86 cU64 cTab hT,⟨_,_,hv1⟩,⟨_,_,hv0⟩⟩
set_option maxRecDepth 100000 in
theorem door_met (os : Os) (args : Array Value) : laidMetH Tryz.prog listed ((World.doorLaid Tryz.prog 600 os).forCall (fun _ _ => 0) ⟨#[],args,[]⟩).memory :=
 laidMetH_of_parts3 (fuel := 8) (laidMet_of_run' 8 (by kernel_rfl) (by kernel_rfl)) (by kernel_rfl) (by kernel_rfl)
theorem cRow : Tryz.prog.cellsOf 137 = 2 := by kernel_rfl
theorem tab_rows {W : World} {cs : List Value} {fuel n : Nat} {t : TypeId} {p : List MemPlace} (ht : Tryz.prog.underlying t = some (.array n 137)) {ds : List (List UInt8 × List UInt8)}
  (h : DataW.trod (fun _ => ()) Tryz.prog W 0 (fun _ => true) false fuel t cs = some (.agg (ds.map fun d => .agg [.lit (.string d.1),.lit (.string d.2)]),p)) :
  ∀ (i : Nat) d,ds[i]? = some d → cs[i * 2]? = some (.string ⟨d.1.toArray⟩) ∧ cs[i * 2 + 1]? = some (.string ⟨d.2.toArray⟩) := by
 obtain ⟨xs,m,rfl,hx,hl,hxl,hall⟩ := DataW.trod_array ht h
 have hxs : ds.map (fun d => (DataW.agg [.lit (.string d.1),.lit (.string d.2)] : DataW Unit)) = xs.map (·.1) := by
  have := congrArg Prod.fst hx
  simpa using this
 intro i d hd
 have hi : i < n := by
  have h1 := (List.getElem?_eq_some_iff.1 hd).1
  have h2 := congrArg List.length hxs
  simp at h2
  omega
 have h1 := hall i hi
 obtain ⟨b,hb⟩ : ∃ b,xs[i]? = some b := ⟨_,List.getElem?_eq_getElem (by omega)⟩
 rw [hb,cRow] at h1
 obtain ⟨y0,y1,k,rfl,-,k0,k1⟩ := trod_struct2 Tryz.underlying137 h1
 simp only [cStr,List.drop_zero] at k0 k1
 obtain ⟨s0,e0,rfl,-⟩ := DataW.trod_string Tryz.underlying9 k0
 obtain ⟨s1,e1,rfl,-⟩ := DataW.trod_string Tryz.underlying9 k1
 have h2 : (ds.map (fun d => (DataW.agg [.lit (.string d.1),.lit (.string d.2)] : DataW Unit)))[i]? = (xs.map (·.1))[i]? := by rw [hxs]
 rw [List.getElem?_map,List.getElem?_map,hd,hb] at h2
 simp only [Option.map_some,Option.some.injEq,DataW.agg.injEq,List.cons.injEq,DataW.lit.injEq,Lit.string.injEq,and_true] at h2
 obtain ⟨g0,g1⟩ := h2
 have q0 := congrArg (·[0]?) e0
 have q1 := congrArg (·[0]?) e1
 simp [List.getElem?_take,List.getElem?_drop] at q0 q1
 rw [g0,g1]
 exact ⟨by rw [q0],by rw [q1]⟩
theorem gSt : Tryz.prog.globalNamed "culvert/script.steps" = some 1 := by kernel_rfl
theorem gCh : Tryz.prog.globalNamed "culvert/script.changes" = some 0 := by kernel_rfl
theorem gStT : (Tryz.prog.globals[1]?).map (·.type) = some 155 := by kernel_rfl
theorem gChT : (Tryz.prog.globals[0]?).map (·.type) = some 138 := by kernel_rfl
def dSt : List (List UInt8 × List UInt8) := (List.range 14).map fun i => (stepNames.getD i [],stepForm (i + 1))
def dCh : List (List UInt8 × List UInt8) := (List.range 5).map fun i => (chgNames.getD i [],chgForm (i + 1))
theorem dSt_at (i : Nat) (x : List UInt8) (h : stepNames[i]? = some x) : dSt[i]? = some (x,stepForm (i + 1)) := by
 have hi : i < 14 := (List.getElem?_eq_some_iff.1 h).1
 unfold dSt
 rw [List.getElem?_map,List.getElem?_range hi]
 simp [List.getD_eq_getElem?_getD,h]
theorem dCh_at (i : Nat) (x : List UInt8) (h : chgNames[i]? = some x) : dCh[i]? = some (x,chgForm (i + 1)) := by
 have hi : i < 5 := (List.getElem?_eq_some_iff.1 h).1
 unfold dCh
 rw [List.getElem?_map,List.getElem?_range hi]
 simp [List.getD_eq_getElem?_getD,h]
theorem tabs_of {W : World} (h : laidMetH Tryz.prog listed W) : Tabs W := by
 rw [MakeChecks.laidMetH_plain _ _ _ (by kernel_rfl)] at h
 have hs : Lib.VarReads Tryz.prog W "culvert/script.steps" Rows.laid_culvert_script_steps := Lib.laidMet.reads h (by simp [listed])
 have hc : Lib.VarReads Tryz.prog W "culvert/script.changes" Rows.laid_culvert_script_changes := Lib.laidMet.reads h (by simp [listed])
 obtain ⟨g,t,cs,fuel,p,k1,k2,k3,k4⟩ := hs
 obtain ⟨g',t',cs',fuel',p',j1,j2,j3,j4⟩ := hc
 obtain rfl := Option.some.inj (gSt.symm.trans k1)
 obtain rfl := Option.some.inj (gStT.symm.trans k2)
 obtain rfl := Option.some.inj (gCh.symm.trans j1)
 obtain rfl := Option.some.inj (gChT.symm.trans j2)
 have es : (Rows.laid_culvert_script_steps : DataW Unit) = .agg (dSt.map fun d => .agg [.lit (.string d.1),.lit (.string d.2)]) := rfl
 have ec : (Rows.laid_culvert_script_changes : DataW Unit) = .agg (dCh.map fun d => .agg [.lit (.string d.1),.lit (.string d.2)]) := rfl
 rw [es] at k4
 rw [ec] at j4
 have rs := tab_rows Tryz.underlying155 k4
 have rc := tab_rows Tryz.underlying138 j4
 have vs := fun i => World.var?_cell gSt k3 i
 have vc := fun i => World.var?_cell gCh j3 i
 simp only [Array.getElem?_toList] at rs rc
 exact ⟨fun i x hx => ⟨by rw [vs];exact (rs i _ (dSt_at i x hx)).1,by rw [vs];exact (rs i _ (dSt_at i x hx)).2⟩,
  fun i x hx => ⟨by rw [vc];exact (rc i _ (dCh_at i x hx)).1,by rw [vc];exact (rc i _ (dCh_at i x hx)).2⟩⟩
end Go.Proofs.YtpkmekdpmkfcdaaGreatDoor.Fr
