/- The iterator over the parts of a text. -/
import Derived.Test.YtnodiejfhkjliaaDoorPrefR
import Derived.Test.YtnodiejfhkjliaaDoorRange
import Derived.Shelf.Abstract
import Derived.Shelf.AbstractIn
import Derived.WalkKit
import Derived.OwnWalkIn
import Derived.TacticsInMore
import Derived.LoopNIn
import Derived.LoopIn
namespace Go.Proofs.YtnodiejfhkjliaaDoor.Pf
open Go.RowKit Go.Shelf Go.Proofs.YtnodiejfhkjliaaDoor.Wd Go.Proofs.YtnodiejfhkjliaaDoor.Px Go.Proofs.YtnodiejfhkjliaaDoor.By Go.Proofs.YtnodiejfhkjliaaDoor.En Go.Proofs.YtnodiejfhkjliaaDoor.Pl
attribute [local go_sem] Oper.semAt_some

theorem index_spec (c : UInt8) : ∀ l : List UInt8, (Lib.indexByte l c = -1 ∧ c ∉ l) ∨ (∃ q : Nat, Lib.indexByte l c = q ∧ q < l.length ∧ l = l.take q ++ c :: l.drop (q + 1) ∧ c ∉ l.take q)
  | [] => .inl ⟨rfl, by simp⟩
  | b :: l => by
    by_cases hb : b = c
    · subst hb
      exact .inr ⟨0, by simp [Lib.indexByte], by simp, by simp, by simp⟩
    · have e : Lib.indexByte (b :: l) c = if Lib.indexByte l c == -1 then -1 else Lib.indexByte l c + 1 := by
        rw [Lib.indexByte, if_neg (by simpa using hb)]
      rcases index_spec c l with ⟨h1, h2⟩ | ⟨q, h1, h2, h3, h4⟩
      · exact .inl ⟨by rw [e, h1]; decide, by simp [h2, Ne.symm hb]⟩
      · refine .inr ⟨q + 1, ?_, by simp; omega, ?_, ?_⟩
        · rw [e, h1, if_neg (by simp)]
          omega
        · simp only [List.take_succ_cons, List.drop_succ_cons, List.cons_append]
          rw [← h3]
        · simp [h4, Ne.symm hb]

theorem ext_take (r : List UInt8) (q : Nat) : (⟨r.toArray⟩ : ByteArray).extract 0 q = ⟨(r.take q).toArray⟩ := by
  apply ByteArray.ext
  simp
theorem ext_drop (r : List UInt8) (q m : Nat) (h : m = r.length) : (⟨r.toArray⟩ : ByteArray).extract q m = ⟨(r.drop q).toArray⟩ := by
  subst h
  apply ByteArray.ext
  simp [List.extract]
  rw [List.take_of_length_le (by simp)]
theorem split_more {sep : UInt8} {t r : List UInt8} {pre : List (List UInt8)} {q : Nat} (HS : split sep t = pre ++ split sep r) (hc : r = r.take q ++ sep :: r.drop (q + 1)) (hn : sep ∉ r.take q) : split sep t = (pre ++ [r.take q]) ++ split sep (r.drop (q + 1)) := by
  have h := split_cut sep (r.take q) (r.drop (q + 1)) hn
  rw [← hc] at h
  rw [HS, h]
  simp
theorem split_last {sep : UInt8} {t r : List UInt8} {pre : List (List UInt8)} (HS : split sep t = pre ++ split sep r) (hn : sep ∉ r) : split sep t = pre ++ [r] := by
  rw [HS, split_one sep r hn]

/-- the two blocks of the iterator lie as they lay -/
def Two (tB sB : Nat) (W W' : World) : Prop := W'.heap[tB]? = W.heap[tB]? ∧ W'.heap[sB]? = W.heap[sB]?
theorem Two.trans {tB sB : Nat} {A B C : World} (h : Two tB sB A B) (k : Two tB sB B C) : Two tB sB A C := ⟨k.1.trans h.1, k.2.trans h.2⟩

theorem index_as {r : List UInt8} {sep : UInt8} {q : Int} (h : Hid (Lib.indexByte r sep = q)) (w : World) :
    Calls Tryd.prog 51 #[.string ⟨r.toArray⟩, .int .u8 (sep.toNat : Int)] w fun e w' => e = .returned (.int .i64 q) ∧ w' = w := by
  have := Tryd.strings_IndexByte ⟨r.toArray⟩ (sep.toNat : Int) w
  rw [show ((sep.toNat : Int).toNat.toUInt8) = sep by simp] at this
  rw [show (⟨r.toArray⟩ : ByteArray).data.toList = r from rfl, h.out] at this
  exact this

set_option maxRecDepth 100000 in
set_option maxHeartbeats 4000000 in
theorem parts_iter (n tB sB : Nat) (hn1 : 1 ≤ n) (hne : sB ≠ tB) (sep : UInt8) (t : List UInt8) (ht : t.length ≤ 140737488355328) (w : World) (htB : tB < w.heap.size) (hsB : sB < w.heap.size)
    (g0 : w.cell? ⟨tB, 0, none⟩ = some (.string ⟨t.toArray⟩)) (gf : w.frozen? ⟨tB, 0, none⟩ = false) (g1 : w.cell? ⟨sB, 0, none⟩ = some (.int .u8 (sep.toNat : Int))) :
    Iter Fence.wide n Tryd.prog 78 #[.pointer (some ⟨tB, 0, none⟩), .pointer (some ⟨sB, 0, none⟩)] (fun k (x : List UInt8) => #[.int .i64 (k : Int), .string ⟨x.toArray⟩]) (Two tB sB) tB (split sep t) w := fun l J Jx W hW hJ hJx hY h0 => by
  have k0 := (hW.cell (p := ⟨tB, 0, none⟩) htB).trans g0
  have k1 := (hW.cell (p := ⟨sB, 0, none⟩) hsB).trans g1
  have kf := (hW.frozen (p := ⟨tB, 0, none⟩) htB).trans gf
  have hF : Fence.wide.fn 51 := trivial
  refine callsIn_of_wp Tryd.func78 rfl trivial ?_ rfl
  simp only [Tryd.ntmps78, List.size_toArray, List.length_cons, List.length_nil, Nat.reduceAdd, Nat.reduceSub, Array.replicate_succ, Array.replicate_zero, List.push_toArray, List.append_toArray, List.nil_append, List.cons_append]
  gi_wp2
  gi_loopw [4] (fun v wr => ∃ (k : Nat) (pre : List (List UInt8)) (r : List UInt8), v = .int .i64 k ∧ Hid (pre.length = k) ∧ Hid (split sep t = pre ++ split sep r) ∧ r.length ≤ t.length ∧ k + r.length ≤ t.length ∧ wr.cell? ⟨tB, 0, none⟩ = some (.string ⟨r.toArray⟩) ∧ wr.frozen? ⟨tB, 0, none⟩ = false ∧ wr.cell? ⟨sB, 0, none⟩ = some (.int .u8 (sep.toNat : Int)) ∧ J pre wr) (fun v _ => (split sep t).length - (intOf v).toNat)
  case atStart => exact ⟨0, [], t, rfl, rfl, rfl, Nat.le_refl _, by omega, k0, kf, k1, h0⟩
  case round =>
    obtain ⟨k, pre, r, rfl, HP, HS, hr, hk, c0, cf, c1, hj⟩ := hrel
    clear k0 k1 kf
    rcases index_spec sep r with ⟨hi, hn⟩ | ⟨q, hi, hq, hcut, hn⟩
    · have HI := Lib.hid hi
      have HL := Lib.hid (split_last HS.out hn)
      clear hi hn
      obtain ⟨fn, tmps, assign, body, hy, hR⟩ := hY pre r wr hj (by rw [HL.out]; exact List.prefix_refl _)
      rw [HP.out] at hy
      gi_wp2_with (gi_at_call 51; refine (callsIn_wide.2 (index_as HI _)).mono ?_; rintro e w' ⟨rfl, rfl⟩)
      refine hR.mono ?_
      rintro e W3 (⟨rfl, hJ3, hk3⟩ | ⟨rfl, hJx3⟩)
      · gi_wp2
        refine bodyPost_ret (results_none rfl _ _ _) rfl ?_
        exact ⟨⟨_, rfl⟩, .inl (by rw [HL.out]; exact hJ3)⟩
      · gi_wp2
        refine bodyPost_ret (results_none rfl _ _ _) rfl ?_
        exact ⟨⟨_, rfl⟩, .inr ⟨_, by rw [HL.out]; exact List.prefix_refl _, hJx3⟩⟩
    · have HI := Lib.hid hi
      have HC := Lib.hid hcut
      have HN := Lib.hid hn
      clear hi hcut hn
      have i1 : (q : Int) < (r.length : Int) := by omega
      have i2 : (r.length : Int) ≤ 140737488355328 := by omega
      have HM := Lib.hid (split_more HS.out HC.out HN.out)
      obtain ⟨fn, tmps, assign, body, hy, hR⟩ := hY pre (r.take q) wr hj (by rw [HM.out]; exact ⟨_, rfl⟩)
      rw [HP.out, ← ext_take] at hy
      gi_wp2_with (gi_at_call 51; refine (callsIn_wide.2 (index_as HI _)).mono ?_; rintro e w' ⟨rfl, rfl⟩)
      refine hR.mono ?_
      rintro e W3 (⟨rfl, hJ3, hk3⟩ | ⟨rfl, hJx3⟩)
      · have d0 := (World.cell?_of_block (a := ⟨tB, 0, none⟩) hk3.1).trans c0
        have df := (World.frozen?_of_block (a := ⟨tB, 0, none⟩) hk3.1).trans cf
        have d1 := (World.cell?_of_block (a := ⟨sB, 0, none⟩) hk3.2).trans c1
        have i3 : (q : Int) + 1 ≤ (r.length : Int) := by omega
        clear hk3 c0 cf c1
        gi_wp2
        rw [ext_drop r (q + 1) r.length rfl]
        refine ⟨⟨k + 1, pre ++ [r.take q], r.drop (q + 1), by go_num, Lib.hid (by rw [List.length_append, HP.out]; rfl), HM, ?_, ?_, ?_, ?_, ?_, hJ _ _ _ hJ3⟩, ?_⟩
        · simp; omega
        · simp; omega
        · exact World.cell?_setCell_same' _ _ _ (by rw [d0]; rfl)
        · rw [World.frozen?_setCell]; exact df
        · exact (World.cell?_of_block (setCell_obj hne)).trans d1
        · have := congrArg List.length HM.out
          have := HP.out
          simp [intOf]
          simp at *
          omega
      · gi_wp2
        refine bodyPost_ret (results_none rfl _ _ _) rfl ?_
        exact ⟨⟨_, rfl⟩, .inr ⟨_, by rw [HM.out]; exact ⟨_, rfl⟩, hJx3⟩⟩

end Go.Proofs.YtnodiejfhkjliaaDoor.Pf
