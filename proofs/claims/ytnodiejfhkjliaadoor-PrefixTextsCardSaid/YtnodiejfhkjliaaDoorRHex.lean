/- Contract: two hexadecimal digits, by the reference. -/
import Derived.Test.YtnodiejfhkjliaaDoorPrefR
import Derived.Deep.RegionHeld3
import Derived.StillTailTactics
namespace Go.Proofs.YtnodiejfhkjliaaDoor.Pf
open Go.RowKit Go.Proofs.YtnodiejfhkjliaaDoor.Wd Go.Proofs.YtnodiejfhkjliaaDoor.Px Go.Proofs.YtnodiejfhkjliaaDoor.By Go.Proofs.YtnodiejfhkjliaaDoor.En Go.Proofs.YtnodiejfhkjliaaDoor.Pl

set_option maxRecDepth 20000 in
set_option maxHeartbeats 1000000 in
theorem rhex_any (c : UInt8) (x : Nat) (hcx : c.toNat = x) (w : World) :
    Calls Tryd.prog 50 #[.int .u8 (x : Int)] w fun e w' => e = .returned (.string ⟨(Px.hx c).toArray⟩) ∧ Below w.heap.size w w' := by
  have hx2 : x < 256 := by rw [← hcx]; exact UInt8.toNat_lt _
  have hh : Px.hx c = [hexd (x / 16), hexd (x % 16)] := by rw [← hcx]; rfl
  obtain ⟨qa, hqa⟩ : ∃ q : Nat, x / 16 = q := ⟨_, rfl⟩
  obtain ⟨ra, hra⟩ : ∃ q : Nat, x % 16 = q := ⟨_, rfl⟩
  have e1 : (x : Int) / 16 = (qa : Int) := by omega
  have e2 : (x : Int).tmod 16 = (ra : Int) := by rw [Int.tmod_eq_emod_of_nonneg (by omega)]; omega
  rw [hqa, hra] at hh
  obtain ⟨da, hda⟩ : ∃ d : Nat, (hexd qa).toNat = d := ⟨_, rfl⟩
  obtain ⟨db, hdb⟩ : ∃ d : Nat, (hexd ra).toNat = d := ⟨_, rfl⟩
  have f1 := hexd_index qa da (by omega) hda
  have f2 := hexd_index ra db (by omega) hdb
  have hw1 : IntKind.u8.wrap (qa : Int) = qa := by rw [IntKind.wrap_u8]; omega
  have hw2 : IntKind.u8.wrap (ra : Int) = ra := by rw [IntKind.wrap_u8]; omega
  have HC := Lib.hid (show [hexd qa, hexd ra].map cel = [.int .u8 da, .int .u8 db] by simp [cel, hda, hdb])
  have HH := Lib.hid hh
  clear hqa hra hda hdb hh hcx
  have hcv : ∀ wd : World, (convert 31 9 (.slice (some ⟨wd.heap.size, 0, none⟩) 2 2)).run Tryd.prog (wd.alloc (.cells #[.int .u8 da, .int .u8 db] 5)) = .ok (.string ⟨([hexd qa, hexd ra]).toArray⟩) (wd.alloc (.cells #[.int .u8 da, .int .u8 db] 5)) := by
    intro wd
    exact run_convert_bytes_back (P := Tryd.prog) (wd.alloc (.cells #[.int .u8 da, .int .u8 db] 5)) 31 9 5 ⟨wd.heap.size, 0, none⟩ 2 [hexd qa, hexd ra] Tryd.underlying31 Tryd.underlying5 Tryd.underlying9 (fun j hj => by
      have := cells_new wd #[.int .u8 da, .int .u8 db] 5 j (cel [hexd qa, hexd ra][j]) (by
        show ([.int .u8 da, .int .u8 db] : List Value)[j]? = _
        rw [← HC.out, List.getElem?_map, List.getElem?_eq_getElem hj]
        rfl)
      exact this)
  obtain ⟨tx, htx⟩ : ∃ tx : List UInt8, [hexd qa, hexd ra] = tx := ⟨_, rfl⟩
  rw [htx] at hcv
  have HTX := Lib.hid htx
  clear htx
  go_enter Tryd.func50, Tryd.ntmps50
  go_upto_region 2 with fail
  refine wp_region_still_tail 8 (by kernel_rfl) (by kernel_rfl) ?_
  simp only [List.take_succ_cons, List.take_zero, List.drop_succ_cons, List.drop_zero]
  change wpStill _ _ w.drew (fun a' => wpList _ _ _ _ a' w.drew) _ _
  have hbl := (Below.refl w.heap.size w).drew
  generalize w.drew = wd at hbl ⊢
  repeat still_step
  refine wpStill_nil ?_
  go_wp2
  go_ret
  refine ⟨?_, hbl.alloc hbl.size _⟩
  rw [HH.out, HTX.out]
  rfl

end Go.Proofs.YtnodiejfhkjliaaDoor.Pf
