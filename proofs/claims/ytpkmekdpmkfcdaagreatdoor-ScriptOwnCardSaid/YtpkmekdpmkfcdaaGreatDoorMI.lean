/- Contract: an address out of its text, by the program: family 6. Contract: an address out of its text, by the program: family 4. Contract: an address out of its text, by the program. -/
import Derived.Test.YtpkmekdpmkfcdaaGreatDoorMH
namespace Go.Proofs.YtpkmekdpmkfcdaaGreatDoor.Pf
open Go.RowKit Go.Shelf Go.Proofs.YtpkmekdpmkfcdaaGreatDoor.Wd Go.Proofs.YtpkmekdpmkfcdaaGreatDoor.Px Go.Proofs.YtpkmekdpmkfcdaaGreatDoor.By Go.Proofs.YtpkmekdpmkfcdaaGreatDoor.En Go.Proofs.YtpkmekdpmkfcdaaGreatDoor.Pl
attribute [local go_sem] Oper.semAt_some
/-- between two rounds; a round has left -/
def I6 (w : World) (pre : List (List UInt8)) (W : World) : Prop := ∃ N,Good v16 65536 8 pre N ∧ PA w 6 (N / 18446744073709551616) (N % 18446744073709551616) 16 16 W
def X6 (w : World) (c : Code) (pre : List (List UInt8)) (W : World) : Prop := c = .ret ∧ Bad v16 8 pre ∧ PX w W
theorem i6_own {w : World} {B : Nat} (hB : w.heap.size ≤ B) : OwnFrom B (I6 w) := fun _ _ _ _ ⟨N,h1,h2⟩ hg hr => ⟨N,h1,h2.own hB hg hr⟩
theorem i6_mind {w : World} : Minds (w.heap.size + 1 + 1 + 1 + 1 + 1) (I6 w) := fun _ _ v ⟨N,h1,h2⟩ => ⟨N,h1,h2.mind v⟩
theorem x6_own {w : World} {B : Nat} (hB : w.heap.size ≤ B) (c : Code) : OwnFrom B (X6 w c) := fun _ _ _ _ ⟨h0,h1,h2⟩ hg hr => ⟨h0,h1,h2.own hB hg hr⟩
theorem x6_mind {w : World} (c : Code) : Minds (w.heap.size + 1 + 1 + 1 + 1 + 1) (X6 w c) := fun _ _ v ⟨h0,h1,h2⟩ => ⟨h0,h1,h2.mind v⟩
theorem new6 (w : World) (t : List UInt8) : (((((((w.alloc (.cells #[.int .i64 0,.int .u64 0,.int .u64 0] 88)).alloc (.cells #[.int .i64 0] 24)).alloc (.cells #[.int .i64 6,.int .u64 0,.int .u64 0] 88)).alloc (.cells #[.int .i64 16] 3)).alloc (.cells #[.int .i64 16] 3)).alloc (.cells #[.string ⟨t.toArray⟩] 9)).alloc (.cells #[.int .u8 58] 5)).heap.size = w.heap.size + 1 + 1 + 1 + 1 + 1 + 1 + 1 ∧
  (((((((w.alloc (.cells #[.int .i64 0,.int .u64 0,.int .u64 0] 88)).alloc (.cells #[.int .i64 0] 24)).alloc (.cells #[.int .i64 6,.int .u64 0,.int .u64 0] 88)).alloc (.cells #[.int .i64 16] 3)).alloc (.cells #[.int .i64 16] 3)).alloc (.cells #[.string ⟨t.toArray⟩] 9)).alloc (.cells #[.int .u8 58] 5)).cell? ⟨w.heap.size + 1 + 1 + 1 + 1 + 1,0,none⟩ = some (.string ⟨t.toArray⟩) ∧ (((((((w.alloc (.cells #[.int .i64 0,.int .u64 0,.int .u64 0] 88)).alloc (.cells #[.int .i64 0] 24)).alloc (.cells #[.int .i64 6,.int .u64 0,.int .u64 0] 88)).alloc (.cells #[.int .i64 16] 3)).alloc (.cells #[.int .i64 16] 3)).alloc (.cells #[.string ⟨t.toArray⟩] 9)).alloc (.cells #[.int .u8 58] 5)).frozen? ⟨w.heap.size + 1 + 1 + 1 + 1 + 1,0,none⟩ = false ∧
  (((((((w.alloc (.cells #[.int .i64 0,.int .u64 0,.int .u64 0] 88)).alloc (.cells #[.int .i64 0] 24)).alloc (.cells #[.int .i64 6,.int .u64 0,.int .u64 0] 88)).alloc (.cells #[.int .i64 16] 3)).alloc (.cells #[.int .i64 16] 3)).alloc (.cells #[.string ⟨t.toArray⟩] 9)).alloc (.cells #[.int .u8 58] 5)).cell? ⟨w.heap.size + 1 + 1 + 1 + 1 + 1 + 1,0,none⟩ = some (.int .u8 ((58 : UInt8).toNat : Int)) ∧ Below w.heap.size w (((((((w.alloc (.cells #[.int .i64 0,.int .u64 0,.int .u64 0] 88)).alloc (.cells #[.int .i64 0] 24)).alloc (.cells #[.int .i64 6,.int .u64 0,.int .u64 0] 88)).alloc (.cells #[.int .i64 16] 3)).alloc (.cells #[.int .i64 16] 3)).alloc (.cells #[.string ⟨t.toArray⟩] 9)).alloc (.cells #[.int .u8 58] 5)) ∧
  PA w 6 0 0 16 16 (((((((w.alloc (.cells #[.int .i64 0,.int .u64 0,.int .u64 0] 88)).alloc (.cells #[.int .i64 0] 24)).alloc (.cells #[.int .i64 6,.int .u64 0,.int .u64 0] 88)).alloc (.cells #[.int .i64 16] 3)).alloc (.cells #[.int .i64 16] 3)).alloc (.cells #[.string ⟨t.toArray⟩] 9)).alloc (.cells #[.int .u8 58] 5)) := by
 refine ⟨by simp,by go_simp,by go_simp,by go_simp,((((((((Below.refl _ w).alloc (Nat.le_refl _) _).alloc (by simp) _).alloc (by simp;omega) _).alloc (by simp;omega) _).alloc (by simp;omega) _).alloc (by simp;omega) _).alloc (by simp;omega) _),?_⟩
 constructor
 case lt => simp
 case bl => exact ((((((((Below.refl _ w).alloc (Nat.le_refl _) _).alloc (by simp) _).alloc (by simp;omega) _).alloc (by simp;omega) _).alloc (by simp;omega) _).alloc (by simp;omega) _).alloc (by simp;omega) _)
 all_goals first
  | (intro o;go_simp)
  | go_simp
set_option maxRecDepth 100000 in
set_option maxHeartbeats 8000000 in
theorem parseaddr_6 (t : List UInt8) (ht : t.length ≤ 140737488355328) (w : World) (hE : Env w) (q : Nat) (HI : Hid (Lib.indexByte t 58 = q)) :
  CallsIn Fence.wide 9 Tryz.prog 227 #[.string ⟨t.toArray⟩] w fun e w' => e = .returned (ofA (prsA t)) ∧ Below w.heap.size w w' := by
 have hF : Fence.wide.fn 257 := trivial
 have hF2 : Fence.wide.fn 258 := trivial
 refine callsIn_of_wp_marks Tryz.func227 rfl trivial ?_ rfl
 simp only [Tryz.ntmps227,List.size_toArray,List.length_cons,List.length_nil,Nat.reduceAdd,Nat.reduceSub,Array.replicate_succ,Array.replicate_zero,List.push_toArray,List.append_toArray,List.nil_append,List.cons_append]
 gi_wp2_with (first
  | (gi_at_call 257;refine (callsIn_wide.2 (index_58 HI _)).mono ?_;rintro e w' ⟨rfl,rfl⟩)
  | (gi_at_call 258;refine (callsIn_wide.2 (parts_any t 58 _)).mono ?_;rintro e w' ⟨rfl,rfl⟩))
 obtain ⟨hsz,g0,gf,g1,hbl0,hP0⟩ := new6 w t
 have hI0 : I6 w [] (((((((w.alloc (.cells #[.int .i64 0,.int .u64 0,.int .u64 0] 88)).alloc (.cells #[.int .i64 0] 24)).alloc (.cells #[.int .i64 6,.int .u64 0,.int .u64 0] 88)).alloc (.cells #[.int .i64 16] 3)).alloc (.cells #[.int .i64 16] 3)).alloc (.cells #[.string ⟨t.toArray⟩] 9)).alloc (.cells #[.int .u8 58] 5)) := ⟨0,Good.nil _ _ _,hP0⟩
 generalize ((((((w.alloc (.cells #[.int .i64 0,.int .u64 0,.int .u64 0] 88)).alloc (.cells #[.int .i64 0] 24)).alloc (.cells #[.int .i64 6,.int .u64 0,.int .u64 0] 88)).alloc (.cells #[.int .i64 16] 3)).alloc (.cells #[.int .i64 16] 3)).alloc (.cells #[.string ⟨t.toArray⟩] 9)).alloc (.cells #[.int .u8 58] 5) = W0 at hsz g0 gf g1 hbl0 hP0 hI0 ⊢
 have HSZ := Lib.hid hsz
 refine range_iter (n := 9) rfl (by omega) (gf := 278) (lb := #[.pointer (some ⟨w.heap.size + 1 + 1 + 1 + 1 + 1,0,none⟩),.pointer (some ⟨w.heap.size + 1 + 1 + 1 + 1 + 1 + 1,0,none⟩)]) rfl trivial (enters_of Tryz.func278 (by kernel_rfl) rfl)
  (parts_iter 8 (w.heap.size + 1 + 1 + 1 + 1 + 1) (w.heap.size + 1 + 1 + 1 + 1 + 1 + 1) (by omega) (by omega) 58 t ht W0 (by omega) (by omega) g0 gf g1) (by omega)
  (fun h k => h.trans k) (fun W l o' h => ⟨World.putObj_heap_other (by omega),World.putObj_heap_other (by omega)⟩) (fun _ _ => rfl)
  (I6 w) (X6 w) (i6_own (by omega)) (x6_own (by omega)) i6_mind x6_mind hI0
  (fun k x => { tmps := #[.string ⟨t.toArray⟩,undef,.pointer (some ⟨w.heap.size,0,none⟩),.pointer (some ⟨w.heap.size + 1,0,none⟩),.pointer (some ⟨w.heap.size + 1 + 1,0,none⟩),.int .u8 58,.pointer (some ⟨w.heap.size + 1 + 1 + 1,0,none⟩),.pointer (some ⟨w.heap.size + 1 + 1 + 1 + 1,0,none⟩),.int .i64 (k : Int),.string ⟨x.toArray⟩,undef,undef,.agg #[.int .i64 4,.int .u64 0,.int .u64 0],.string ⟨t.toArray⟩,.int .i64 (q : Int),.bool true,.agg #[.int .i64 6,.int .u64 0,.int .u64 0],.string ⟨t.toArray⟩,.int .u8 58,.func (.func 278) #[] #[.pointer (some ⟨w.heap.size + 1 + 1 + 1 + 1 + 1,0,none⟩),.pointer (some ⟨w.heap.size + 1 + 1 + 1 + 1 + 1 + 1,0,none⟩)],.int .i64 (k : Int),.string ⟨x.toArray⟩,undef,undef,undef,undef,undef,undef,undef,undef,undef,undef,undef,undef,undef,undef,undef,undef,undef,undef,undef,undef,undef,undef,undef,undef,undef,undef,undef,undef,undef,undef,undef,undef,undef,undef,undef,undef,undef,undef,undef,undef,undef,undef,undef,undef,undef,undef,undef,undef],defers := [] }) ?assign ?body ?done ?stop
 case assign =>
  intro l k x W K hK
  gi_wp2
  exact hK
 case body =>
  rintro l pre x W ⟨N,hG,hP⟩ hpre
  have hxl := part_len hpre
  have hFp : Fence.wide.fn 163 := trivial
  have hFw : Fence.wide.fn 156 := trivial
  have hEW := hE.on hP.bl
  have hNlt := hG.lt v16_lt
  have hlen := hG.1
  obtain ⟨hi,hhi⟩ : ∃ hi,N / 18446744073709551616 = hi := ⟨_,rfl⟩
  obtain ⟨lo,hlo⟩ : ∃ lo,N % 18446744073709551616 = lo := ⟨_,rfl⟩
  rw [hhi,hlo] at hP
  have HG := Lib.hid hG
  clear hG
  have hP2 := hP
  obtain ⟨r0,r1,r2,rf,e0,ef,a0,a1,a2,af,b0,z0,hlt,hbl⟩ := hP2
  cases hv : v16 x with
  | none =>
   have HV := Lib.hid hv
   clear hv
   gi_wp2_with (gi_at_call 163;refine (CallsIn.inRound l (callsIn_wide.2 (parse16_none HV (Nat.le_trans hxl ht) _ hEW))).mono ?_;rintro e w2 ⟨⟨u,Ne,rfl⟩,hb2⟩)
   clear r0 r1 r2 rf e0 ef a0 a1 a2 af b0 z0
   have hP2 := hP.on hb2
   have c0 := after_cell hP2.z0
   refine round_after (by kernel_rfl) (by kernel_rfl) (by rintro ⟨a,w,h⟩;exact h) (by kernel_rfl) ?_
   repeat (go_big_quiet_step (fail))
   refine wpQuiet_nil ?_
   rintro _ ⟨y,rfl⟩
   have hP3 := hP2.on y.b
   have hyb := y.b
   generalize y.w = Y at hP3 hyb ⊢
   have hst := ((Stp.call (tB := w.heap.size + 1 + 1 + 1 + 1 + 1) (sB := w.heap.size + 1 + 1 + 1 + 1 + 1 + 1) hb2 (by omega) (by omega)).trans (Stp.call hyb (by have := hP2.lt;omega) (by have := hP2.lt;omega))).1
   clear c0 hP2 hP hb2 hyb y
   have hPX := hP3.err
   obtain ⟨r0,r1,r2,rf,e0,ef,-,-,-,-,-,-,hlt3,hbl3⟩ := hP3
   gi_wp2
   exact ⟨(((hst.trans (KeepsOthers.setCell _ _ _)).trans (KeepsOthers.setCell _ _ _)).trans (KeepsOthers.setCell _ _ _)).trans (KeepsOthers.setCell _ _ _),rfl,⟨pre,x,rfl,.inl HV.out⟩,hPX⟩
  | some u =>
   have HV := Lib.hid hv
   have hu := v16_lt x u hv
   have huI : (u : Int) < 65536 := by omega
   clear hv
   obtain ⟨k,hk⟩ : ∃ k,pre.length = k := ⟨_,rfl⟩
   have HK := Lib.hid hk
   rw [hk] at hlen hNlt ⊢
   clear hk
   by_cases hkm : k = 8
   ·subst hkm
    gi_wp2_with (gi_at_call 163;refine (CallsIn.inRound l (callsIn_wide.2 (parse16_some HV (Nat.le_trans hxl ht) _ hEW))).mono ?_;rintro e w2 ⟨rfl,hb2⟩)
    clear r0 r1 r2 rf e0 ef a0 a1 a2 af b0 z0
    have hP2 := hP.on hb2
    have c0 := after_cell hP2.z0
    have c1 := after_cell hP2.a0
    have HN : Hid (wid 6 = 128) := rfl
    refine round_after (by kernel_rfl) (by kernel_rfl) (by rintro ⟨a,w,h⟩;exact h) (by kernel_rfl) ?_
    repeat (go_big_quiet_step ((go_at_call 156;exact after_same (width_as HN _))))
    refine wpQuiet_nil ?_
    rintro _ ⟨y,rfl⟩
    have hP3 := hP2.on y.b
    have hyb := y.b
    generalize y.w = Y at hP3 hyb ⊢
    have hst := ((Stp.call (tB := w.heap.size + 1 + 1 + 1 + 1 + 1) (sB := w.heap.size + 1 + 1 + 1 + 1 + 1 + 1) hb2 (by omega) (by omega)).trans (Stp.call hyb (by have := hP2.lt;omega) (by have := hP2.lt;omega))).1
    clear c0 c1 hP2 hP hb2 hyb y
    have hPX := hP3.err
    obtain ⟨r0,r1,r2,rf,e0,ef,-,-,-,-,-,-,hlt3,hbl3⟩ := hP3
    gi_wp2
    exact ⟨(((hst.trans (KeepsOthers.setCell _ _ _)).trans (KeepsOthers.setCell _ _ _)).trans (KeepsOthers.setCell _ _ _)).trans (KeepsOthers.setCell _ _ _),rfl,⟨pre,x,rfl,.inr (by rw [List.length_append,HK.out];exact Nat.lt_succ_self _)⟩,hPX⟩
   ·have hk7 : (k : Int) ≤ 7 := by omega
    have hN2 : N < 5192296858534827628530496329220096 := Nat.lt_of_lt_of_le hNlt (show 65536 ^ k ≤ 65536 ^ 7 from Nat.pow_le_pow_right (by omega) (by omega))
    have hnx := nx16 N u hu
    rw [hhi,hlo] at hnx
    have hlo2 : lo < 18446744073709551616 := by rw [← hlo];exact Nat.mod_lt _ (by omega)
    have hhi2 : hi < 281474976710656 := by rw [← hhi];omega
    have q1 := sh16 hi (by omega)
    have q2 : (lo : Int) / 281474976710656 = ((lo / 281474976710656 : Nat) : Int) := by simp
    have q3 := or16 hi (lo / 281474976710656) (by omega) (by omega)
    have q4 := sl16 lo
    have q5 := or16 (lo % 281474976710656) u hu (by omega)
    obtain ⟨hi1,e1⟩ : ∃ v,hi * 65536 = v := ⟨_,rfl⟩
    obtain ⟨ld,e2⟩ : ∃ v,lo / 281474976710656 = v := ⟨_,rfl⟩
    obtain ⟨lm,e3⟩ : ∃ v,lo % 281474976710656 * 65536 = v := ⟨_,rfl⟩
    rw [e1] at q1 q3 hnx
    rw [e2] at q2 q3 hnx
    rw [e3] at q4 q5 hnx
    obtain ⟨hi2,e4⟩ : ∃ v,hi1 + ld = v := ⟨_,rfl⟩
    obtain ⟨lo2,e5⟩ : ∃ v,lm + u = v := ⟨_,rfl⟩
    rw [e4] at q3 hnx
    rw [e5] at q5 hnx
    have HNX := Lib.hid hnx
    have hG2 : Good v16 65536 8 (pre ++ [x]) (N * 65536 + u) := HG.out.snoc HV.out (by rw [HK.out];omega)
    have HG2 := Lib.hid hG2
    clear hnx e1 e2 e3 e4 e5 hhi hlo hN2 hhi2 hlo2 hNlt hG2
    have hw1 : IntKind.i64.wrap ((k : Int) + 1) = (k : Int) + 1 := IntWalk.i64_in _ ⟨by omega,by omega⟩
    have hw2 : IntKind.i64.wrap (((k : Int) + 1) * 16) = ((k : Int) + 1) * 16 := IntWalk.i64_in _ ⟨by omega,by omega⟩
    have hd : decide ((128 : Int) < ((k : Int) + 1) * 16) = false := decide_eq_false (by omega)
    gi_wp2_with (gi_at_call 163;refine (CallsIn.inRound l (callsIn_wide.2 (parse16_some HV (Nat.le_trans hxl ht) _ hEW))).mono ?_;rintro e w2 ⟨rfl,hb2⟩)
    clear r0 r1 r2 rf e0 ef a0 a1 a2 af b0 z0
    have hP2 := hP.on hb2
    have c0 := after_cell hP2.z0
    have c1 := after_cell hP2.a0
    have HN : Hid (wid 6 = 128) := rfl
    refine round_after (by kernel_rfl) (by kernel_rfl) (by rintro ⟨a,w,h⟩;exact h) (by kernel_rfl) ?_
    repeat (go_big_quiet_step ((go_at_call 156;exact after_same (width_as HN _))))
    refine wpQuiet_nil ?_
    rintro _ ⟨y,rfl⟩
    have hP3 := hP2.on y.b
    have hyb := y.b
    generalize y.w = Y at hP3 hyb ⊢
    have hst := (Stp.call (tB := w.heap.size + 1 + 1 + 1 + 1 + 1) (sB := w.heap.size + 1 + 1 + 1 + 1 + 1 + 1) hb2 (by omega) (by omega)).trans (Stp.call hyb (by have := hP2.lt;omega) (by have := hP2.lt;omega))
    clear c0 c1 hP2 hP hb2 hyb y hw1 hw2 hd
    have hPd := hP3.on (Below.refl _ _).drew
    have hstd := hst.trans (Stp.drew (tB := w.heap.size + 1 + 1 + 1 + 1 + 1) (sB := w.heap.size + 1 + 1 + 1 + 1 + 1 + 1) Y)
    clear hP3 hst
    gi_wp2
    refine round_tail 11 (by kernel_rfl) (by kernel_rfl) (by rintro ⟨a,w,h⟩;exact h) (by kernel_rfl) ?_
    simp only [List.take_succ_cons,List.take_zero,List.drop_succ_cons,List.drop_zero]
    generalize Y.drew = Z at hPd hstd ⊢
    have hPd2 := hPd
    obtain ⟨r0,r1,r2,rf,e0,ef,a0,a1,a2,af,b0,z0,hlt3,hbl3⟩ := hPd
    have hwc : IntKind.i64.wrap 48 = 48 := by decide
    repeat still_step
    refine wpStill_nil ?_
    go_wp2
    gi_wp2
    exact ⟨(hstd.trans ((Stp.set (w.heap.size + 1 + 1) 1 _ (by omega) (by omega)).trans (Stp.set (w.heap.size + 1 + 1) 2 _ (by omega) (by omega)))).1,(hstd.trans ((Stp.set (w.heap.size + 1 + 1) 1 _ (by omega) (by omega)).trans (Stp.set (w.heap.size + 1 + 1) 2 _ (by omega) (by omega)))).2,N * 65536 + u,HG2.out,by rw [HNX.out.1,HNX.out.2];exact hPd2.put2 hi2 lo2⟩
 case done =>
  rintro D W hD ⟨N,hG,hP⟩ hK
  have hpr := good6 (index_yes HI.out) hG
  obtain ⟨hi,hhi⟩ : ∃ hi,N / 18446744073709551616 = hi := ⟨_,rfl⟩
  obtain ⟨lo,hlo⟩ : ∃ lo,N % 18446744073709551616 = lo := ⟨_,rfl⟩
  have hNb := good6_lt hG
  have hlo2 : lo < 18446744073709551616 := by rw [← hlo];exact Nat.mod_lt _ (by omega)
  have hhi2 : hi < 18446744073709551616 := by rw [← hhi];omega
  have hval : ofA (some (6,N)) = .tuple #[.agg #[.int .i64 6,.int .u64 (hi : Int),.int .u64 (lo : Int)],.int .i64 0] := by rw [← hhi,← hlo];rfl
  rw [hhi,hlo] at hpr hP
  have HVAL := Lib.hid hval
  clear hval hhi hlo hG
  obtain ⟨p,hp⟩ : ∃ p,prT 6 hi lo = p := ⟨_,rfl⟩
  rw [hp] at hpr
  have HT := Lib.hid hp
  clear hp
  have hEW := hE.on hP.bl
  have hFq : Fence.wide.fn 158 := trivial
  have hP2 := hP
  obtain ⟨r0,r1,r2,rf,e0,ef,a0,a1,a2,af,b0,z0,hlt,hbl⟩ := hP2
  gi_wp2_with (gi_at_call 158;refine (callsIn_wide.2 (printaddr_as HT _ hEW hhi2 hlo2)).mono ?_;rintro e w2 ⟨rfl,hb2⟩;(have hK3 := (hb2.block D (Array.getElem?_eq_some_iff.1 hK).1).trans hK);(have hP3 := hP.on hb2);clear r0 r1 r2 rf e0 ef a0 a1 a2 af b0 z0 hlt hbl;obtain ⟨r0,r1,r2,rf,e0,ef,a0,a1,a2,af,b0,z0,hlt,hbl⟩ := hP3)
  ·have hK4 := (fourKept w2 ⟨w.heap.size,0,none⟩ ⟨w.heap.size,1,none⟩ ⟨w.heap.size,2,none⟩ ⟨w.heap.size + 1,0,none⟩ (.int .i64 0) (.int .u64 0) (.int .u64 0) (.int .i64 70)).same D _ hK3 rfl
   refine ⟨by simp,.inl ⟨_,_,rfl,run_takeDeferred hK4,?_⟩⟩
   have hX := ((hP.on hb2).tell 0 0 0 70).shut (o' := .deferred none) hK4 rfl (by omega)
   clear r0 r1 r2 rf e0 ef a0 a1 a2 af b0 z0 hlt hbl
   obtain ⟨x0,x1,x2,xe,xbl⟩ := hX
   have hne : p ≠ t := by rename_i hx;simpa using hx
   refine ⟨.tuple #[.agg #[.int .i64 0,.int .u64 0,.int .u64 0],.int .i64 70],?_,by rw [hpr,if_neg hne];rfl,xbl⟩
   simp [results,Tryz.f227,go_sem,x0,x1,x2,xe]
  ·have hK4 := (fourKept w2 ⟨w.heap.size,0,none⟩ ⟨w.heap.size,1,none⟩ ⟨w.heap.size,2,none⟩ ⟨w.heap.size + 1,0,none⟩ (.int .i64 6) (.int .u64 hi) (.int .u64 lo) (.int .i64 0)).same D _ hK3 rfl
   refine ⟨by simp,.inl ⟨_,_,rfl,run_takeDeferred hK4,?_⟩⟩
   have hX := ((hP.on hb2).tell 6 hi lo 0).shut (o' := .deferred none) hK4 rfl (by omega)
   clear r0 r1 r2 rf e0 ef a0 a1 a2 af b0 z0 hlt hbl
   obtain ⟨x0,x1,x2,xe,xbl⟩ := hX
   have he : p = t := by rename_i hx;simpa using hx
   refine ⟨.tuple #[.agg #[.int .i64 6,.int .u64 (hi : Int),.int .u64 (lo : Int)],.int .i64 0],?_,by rw [hpr,if_pos he,HVAL.out],xbl⟩
   simp [results,Tryz.f227,go_sem,x0,x1,x2,xe]
 case stop =>
  rintro D c pre W hD hpre ⟨rfl,hB,hX⟩ hK
  have hpr := bad6 (index_yes HI.out) hpre hB
  have hX2 := hX
  obtain ⟨x0,x1,x2,xe,xbl⟩ := hX
  gi_wp2
  clear x0 x1 x2 xe xbl
  refine ⟨by simp,.inl ⟨_,_,rfl,run_takeDeferred hK,?_⟩⟩
  obtain ⟨x0,x1,x2,xe,xbl⟩ := hX2.pr.shut (o' := .deferred none) hK rfl (by omega)
  refine ⟨.tuple #[.agg #[.int .i64 0,.int .u64 0,.int .u64 0],.int .i64 70],?_,by rw [hpr];rfl,xbl⟩
  simp [results,Tryz.f227,go_sem,x0,x1,x2,xe]
end Go.Proofs.YtpkmekdpmkfcdaaGreatDoor.Pf
namespace Go.Proofs.YtpkmekdpmkfcdaaGreatDoor.Pf
open Go.RowKit Go.Shelf Go.Proofs.YtpkmekdpmkfcdaaGreatDoor.Wd Go.Proofs.YtpkmekdpmkfcdaaGreatDoor.Px Go.Proofs.YtpkmekdpmkfcdaaGreatDoor.By Go.Proofs.YtpkmekdpmkfcdaaGreatDoor.En Go.Proofs.YtpkmekdpmkfcdaaGreatDoor.Pl
attribute [local go_sem] Oper.semAt_some
/-- between two rounds; a round has left -/
def I4 (w : World) (pre : List (List UInt8)) (W : World) : Prop := ∃ N,Good v8 256 4 pre N ∧ PA w 4 (N / 18446744073709551616) (N % 18446744073709551616) 10 8 W
def X4 (w : World) (c : Code) (pre : List (List UInt8)) (W : World) : Prop := c = .ret ∧ Bad v8 4 pre ∧ PX w W
theorem i4_own {w : World} {B : Nat} (hB : w.heap.size ≤ B) : OwnFrom B (I4 w) := fun _ _ _ _ ⟨N,h1,h2⟩ hg hr => ⟨N,h1,h2.own hB hg hr⟩
theorem i4_mind {w : World} : Minds (w.heap.size + 1 + 1 + 1 + 1 + 1) (I4 w) := fun _ _ v ⟨N,h1,h2⟩ => ⟨N,h1,h2.mind v⟩
theorem x4_own {w : World} {B : Nat} (hB : w.heap.size ≤ B) (c : Code) : OwnFrom B (X4 w c) := fun _ _ _ _ ⟨h0,h1,h2⟩ hg hr => ⟨h0,h1,h2.own hB hg hr⟩
theorem x4_mind {w : World} (c : Code) : Minds (w.heap.size + 1 + 1 + 1 + 1 + 1) (X4 w c) := fun _ _ v ⟨h0,h1,h2⟩ => ⟨h0,h1,h2.mind v⟩
theorem new4 (w : World) (t : List UInt8) : (((((((w.alloc (.cells #[.int .i64 0,.int .u64 0,.int .u64 0] 88)).alloc (.cells #[.int .i64 0] 24)).alloc (.cells #[.int .i64 4,.int .u64 0,.int .u64 0] 88)).alloc (.cells #[.int .i64 10] 3)).alloc (.cells #[.int .i64 8] 3)).alloc (.cells #[.string ⟨t.toArray⟩] 9)).alloc (.cells #[.int .u8 46] 5)).heap.size = w.heap.size + 1 + 1 + 1 + 1 + 1 + 1 + 1 ∧
  (((((((w.alloc (.cells #[.int .i64 0,.int .u64 0,.int .u64 0] 88)).alloc (.cells #[.int .i64 0] 24)).alloc (.cells #[.int .i64 4,.int .u64 0,.int .u64 0] 88)).alloc (.cells #[.int .i64 10] 3)).alloc (.cells #[.int .i64 8] 3)).alloc (.cells #[.string ⟨t.toArray⟩] 9)).alloc (.cells #[.int .u8 46] 5)).cell? ⟨w.heap.size + 1 + 1 + 1 + 1 + 1,0,none⟩ = some (.string ⟨t.toArray⟩) ∧ (((((((w.alloc (.cells #[.int .i64 0,.int .u64 0,.int .u64 0] 88)).alloc (.cells #[.int .i64 0] 24)).alloc (.cells #[.int .i64 4,.int .u64 0,.int .u64 0] 88)).alloc (.cells #[.int .i64 10] 3)).alloc (.cells #[.int .i64 8] 3)).alloc (.cells #[.string ⟨t.toArray⟩] 9)).alloc (.cells #[.int .u8 46] 5)).frozen? ⟨w.heap.size + 1 + 1 + 1 + 1 + 1,0,none⟩ = false ∧
  (((((((w.alloc (.cells #[.int .i64 0,.int .u64 0,.int .u64 0] 88)).alloc (.cells #[.int .i64 0] 24)).alloc (.cells #[.int .i64 4,.int .u64 0,.int .u64 0] 88)).alloc (.cells #[.int .i64 10] 3)).alloc (.cells #[.int .i64 8] 3)).alloc (.cells #[.string ⟨t.toArray⟩] 9)).alloc (.cells #[.int .u8 46] 5)).cell? ⟨w.heap.size + 1 + 1 + 1 + 1 + 1 + 1,0,none⟩ = some (.int .u8 ((46 : UInt8).toNat : Int)) ∧ Below w.heap.size w (((((((w.alloc (.cells #[.int .i64 0,.int .u64 0,.int .u64 0] 88)).alloc (.cells #[.int .i64 0] 24)).alloc (.cells #[.int .i64 4,.int .u64 0,.int .u64 0] 88)).alloc (.cells #[.int .i64 10] 3)).alloc (.cells #[.int .i64 8] 3)).alloc (.cells #[.string ⟨t.toArray⟩] 9)).alloc (.cells #[.int .u8 46] 5)) ∧
  PA w 4 0 0 10 8 (((((((w.alloc (.cells #[.int .i64 0,.int .u64 0,.int .u64 0] 88)).alloc (.cells #[.int .i64 0] 24)).alloc (.cells #[.int .i64 4,.int .u64 0,.int .u64 0] 88)).alloc (.cells #[.int .i64 10] 3)).alloc (.cells #[.int .i64 8] 3)).alloc (.cells #[.string ⟨t.toArray⟩] 9)).alloc (.cells #[.int .u8 46] 5)) := by
 refine ⟨by simp,by go_simp,by go_simp,by go_simp,((((((((Below.refl _ w).alloc (Nat.le_refl _) _).alloc (by simp) _).alloc (by simp;omega) _).alloc (by simp;omega) _).alloc (by simp;omega) _).alloc (by simp;omega) _).alloc (by simp;omega) _),?_⟩
 constructor
 case lt => simp
 case bl => exact ((((((((Below.refl _ w).alloc (Nat.le_refl _) _).alloc (by simp) _).alloc (by simp;omega) _).alloc (by simp;omega) _).alloc (by simp;omega) _).alloc (by simp;omega) _).alloc (by simp;omega) _)
 all_goals first
  | (intro o;go_simp)
  | go_simp
set_option maxRecDepth 100000 in
set_option maxHeartbeats 8000000 in
theorem parseaddr_4 (t : List UInt8) (ht : t.length ≤ 140737488355328) (w : World) (hE : Env w) (HI : Hid (Lib.indexByte t 58 = -1)) :
  CallsIn Fence.wide 9 Tryz.prog 227 #[.string ⟨t.toArray⟩] w fun e w' => e = .returned (ofA (prsA t)) ∧ Below w.heap.size w w' := by
 have hF : Fence.wide.fn 257 := trivial
 have hF2 : Fence.wide.fn 258 := trivial
 refine callsIn_of_wp_marks Tryz.func227 rfl trivial ?_ rfl
 simp only [Tryz.ntmps227,List.size_toArray,List.length_cons,List.length_nil,Nat.reduceAdd,Nat.reduceSub,Array.replicate_succ,Array.replicate_zero,List.push_toArray,List.append_toArray,List.nil_append,List.cons_append]
 gi_wp2_with (first
  | (gi_at_call 257;refine (callsIn_wide.2 (index_58 HI _)).mono ?_;rintro e w' ⟨rfl,rfl⟩)
  | (gi_at_call 258;refine (callsIn_wide.2 (parts_any t 46 _)).mono ?_;rintro e w' ⟨rfl,rfl⟩))
 obtain ⟨hsz,g0,gf,g1,hbl0,hP0⟩ := new4 w t
 have hI0 : I4 w [] (((((((w.alloc (.cells #[.int .i64 0,.int .u64 0,.int .u64 0] 88)).alloc (.cells #[.int .i64 0] 24)).alloc (.cells #[.int .i64 4,.int .u64 0,.int .u64 0] 88)).alloc (.cells #[.int .i64 10] 3)).alloc (.cells #[.int .i64 8] 3)).alloc (.cells #[.string ⟨t.toArray⟩] 9)).alloc (.cells #[.int .u8 46] 5)) := ⟨0,Good.nil _ _ _,hP0⟩
 generalize ((((((w.alloc (.cells #[.int .i64 0,.int .u64 0,.int .u64 0] 88)).alloc (.cells #[.int .i64 0] 24)).alloc (.cells #[.int .i64 4,.int .u64 0,.int .u64 0] 88)).alloc (.cells #[.int .i64 10] 3)).alloc (.cells #[.int .i64 8] 3)).alloc (.cells #[.string ⟨t.toArray⟩] 9)).alloc (.cells #[.int .u8 46] 5) = W0 at hsz g0 gf g1 hbl0 hP0 hI0 ⊢
 have HSZ := Lib.hid hsz
 refine range_iter (n := 9) rfl (by omega) (gf := 278) (lb := #[.pointer (some ⟨w.heap.size + 1 + 1 + 1 + 1 + 1,0,none⟩),.pointer (some ⟨w.heap.size + 1 + 1 + 1 + 1 + 1 + 1,0,none⟩)]) rfl trivial (enters_of Tryz.func278 (by kernel_rfl) rfl)
  (parts_iter 8 (w.heap.size + 1 + 1 + 1 + 1 + 1) (w.heap.size + 1 + 1 + 1 + 1 + 1 + 1) (by omega) (by omega) 46 t ht W0 (by omega) (by omega) g0 gf g1) (by omega)
  (fun h k => h.trans k) (fun W l o' h => ⟨World.putObj_heap_other (by omega),World.putObj_heap_other (by omega)⟩) (fun _ _ => rfl)
  (I4 w) (X4 w) (i4_own (by omega)) (x4_own (by omega)) i4_mind x4_mind hI0
  (fun k x => { tmps := #[.string ⟨t.toArray⟩,undef,.pointer (some ⟨w.heap.size,0,none⟩),.pointer (some ⟨w.heap.size + 1,0,none⟩),.pointer (some ⟨w.heap.size + 1 + 1,0,none⟩),.int .u8 46,.pointer (some ⟨w.heap.size + 1 + 1 + 1,0,none⟩),.pointer (some ⟨w.heap.size + 1 + 1 + 1 + 1,0,none⟩),.int .i64 (k : Int),.string ⟨x.toArray⟩,undef,undef,.agg #[.int .i64 4,.int .u64 0,.int .u64 0],.string ⟨t.toArray⟩,.int .i64 (-1),.bool false,undef,.string ⟨t.toArray⟩,.int .u8 46,.func (.func 278) #[] #[.pointer (some ⟨w.heap.size + 1 + 1 + 1 + 1 + 1,0,none⟩),.pointer (some ⟨w.heap.size + 1 + 1 + 1 + 1 + 1 + 1,0,none⟩)],.int .i64 (k : Int),.string ⟨x.toArray⟩,undef,undef,undef,undef,undef,undef,undef,undef,undef,undef,undef,undef,undef,undef,undef,undef,undef,undef,undef,undef,undef,undef,undef,undef,undef,undef,undef,undef,undef,undef,undef,undef,undef,undef,undef,undef,undef,undef,undef,undef,undef,undef,undef,undef,undef,undef,undef,undef],defers := [] }) ?assign ?body ?done ?stop
 case assign =>
  intro l k x W K hK
  gi_wp2
  exact hK
 case body =>
  rintro l pre x W ⟨N,hG,hP⟩ hpre
  have hxl := part_len hpre
  have hFp : Fence.wide.fn 163 := trivial
  have hFw : Fence.wide.fn 156 := trivial
  have hEW := hE.on hP.bl
  have hNlt := hG.lt v8_lt
  have hlen := hG.1
  obtain ⟨hi,hhi⟩ : ∃ hi,N / 18446744073709551616 = hi := ⟨_,rfl⟩
  obtain ⟨lo,hlo⟩ : ∃ lo,N % 18446744073709551616 = lo := ⟨_,rfl⟩
  rw [hhi,hlo] at hP
  have HG := Lib.hid hG
  clear hG
  have hP2 := hP
  obtain ⟨r0,r1,r2,rf,e0,ef,a0,a1,a2,af,b0,z0,hlt,hbl⟩ := hP2
  cases hv : v8 x with
  | none =>
   have HV := Lib.hid hv
   clear hv
   gi_wp2_with (gi_at_call 163;refine (CallsIn.inRound l (callsIn_wide.2 (parse8_none HV (Nat.le_trans hxl ht) _ hEW))).mono ?_;rintro e w2 ⟨⟨u,Ne,rfl⟩,hb2⟩)
   clear r0 r1 r2 rf e0 ef a0 a1 a2 af b0 z0
   have hP2 := hP.on hb2
   have c0 := after_cell hP2.z0
   refine round_after (by kernel_rfl) (by kernel_rfl) (by rintro ⟨a,w,h⟩;exact h) (by kernel_rfl) ?_
   repeat (go_big_quiet_step (fail))
   refine wpQuiet_nil ?_
   rintro _ ⟨y,rfl⟩
   have hP3 := hP2.on y.b
   have hyb := y.b
   generalize y.w = Y at hP3 hyb ⊢
   have hst := ((Stp.call (tB := w.heap.size + 1 + 1 + 1 + 1 + 1) (sB := w.heap.size + 1 + 1 + 1 + 1 + 1 + 1) hb2 (by omega) (by omega)).trans (Stp.call hyb (by have := hP2.lt;omega) (by have := hP2.lt;omega))).1
   clear c0 hP2 hP hb2 hyb y
   have hPX := hP3.err
   obtain ⟨r0,r1,r2,rf,e0,ef,-,-,-,-,-,-,hlt3,hbl3⟩ := hP3
   gi_wp2
   exact ⟨(((hst.trans (KeepsOthers.setCell _ _ _)).trans (KeepsOthers.setCell _ _ _)).trans (KeepsOthers.setCell _ _ _)).trans (KeepsOthers.setCell _ _ _),rfl,⟨pre,x,rfl,.inl HV.out⟩,hPX⟩
  | some u =>
   have HV := Lib.hid hv
   have hu := v8_lt x u hv
   have huI : (u : Int) < 256 := by omega
   clear hv
   obtain ⟨k,hk⟩ : ∃ k,pre.length = k := ⟨_,rfl⟩
   have HK := Lib.hid hk
   rw [hk] at hlen hNlt ⊢
   clear hk
   by_cases hkm : k = 4
   ·subst hkm
    gi_wp2_with (gi_at_call 163;refine (CallsIn.inRound l (callsIn_wide.2 (parse8_some HV (Nat.le_trans hxl ht) _ hEW))).mono ?_;rintro e w2 ⟨rfl,hb2⟩)
    clear r0 r1 r2 rf e0 ef a0 a1 a2 af b0 z0
    have hP2 := hP.on hb2
    have c0 := after_cell hP2.z0
    have c1 := after_cell hP2.a0
    have HN : Hid (wid 4 = 32) := rfl
    refine round_after (by kernel_rfl) (by kernel_rfl) (by rintro ⟨a,w,h⟩;exact h) (by kernel_rfl) ?_
    repeat (go_big_quiet_step ((go_at_call 156;exact after_same (width_as HN _))))
    refine wpQuiet_nil ?_
    rintro _ ⟨y,rfl⟩
    have hP3 := hP2.on y.b
    have hyb := y.b
    generalize y.w = Y at hP3 hyb ⊢
    have hst := ((Stp.call (tB := w.heap.size + 1 + 1 + 1 + 1 + 1) (sB := w.heap.size + 1 + 1 + 1 + 1 + 1 + 1) hb2 (by omega) (by omega)).trans (Stp.call hyb (by have := hP2.lt;omega) (by have := hP2.lt;omega))).1
    clear c0 c1 hP2 hP hb2 hyb y
    have hPX := hP3.err
    obtain ⟨r0,r1,r2,rf,e0,ef,-,-,-,-,-,-,hlt3,hbl3⟩ := hP3
    gi_wp2
    exact ⟨(((hst.trans (KeepsOthers.setCell _ _ _)).trans (KeepsOthers.setCell _ _ _)).trans (KeepsOthers.setCell _ _ _)).trans (KeepsOthers.setCell _ _ _),rfl,⟨pre,x,rfl,.inr (by rw [List.length_append,HK.out];exact Nat.lt_succ_self _)⟩,hPX⟩
   ·have hk7 : (k : Int) ≤ 3 := by omega
    have hN2 : N < 16777216 := Nat.lt_of_lt_of_le hNlt (show 256 ^ k ≤ 256 ^ 3 from Nat.pow_le_pow_right (by omega) (by omega))
    have hnx := nx8 N u hu
    rw [hhi,hlo] at hnx
    have hlo2 : lo < 18446744073709551616 := by rw [← hlo];exact Nat.mod_lt _ (by omega)
    have hhi2 : hi < 1 := by rw [← hhi];omega
    have q1 := sh8 hi (by omega)
    have q2 : (lo : Int) / 72057594037927936 = ((lo / 72057594037927936 : Nat) : Int) := by simp
    have q3 := or8 hi (lo / 72057594037927936) (by omega) (by omega)
    have q4 := sl8 lo
    have q5 := or8 (lo % 72057594037927936) u hu (by omega)
    obtain ⟨hi1,e1⟩ : ∃ v,hi * 256 = v := ⟨_,rfl⟩
    obtain ⟨ld,e2⟩ : ∃ v,lo / 72057594037927936 = v := ⟨_,rfl⟩
    obtain ⟨lm,e3⟩ : ∃ v,lo % 72057594037927936 * 256 = v := ⟨_,rfl⟩
    rw [e1] at q1 q3 hnx
    rw [e2] at q2 q3 hnx
    rw [e3] at q4 q5 hnx
    obtain ⟨hi2,e4⟩ : ∃ v,hi1 + ld = v := ⟨_,rfl⟩
    obtain ⟨lo2,e5⟩ : ∃ v,lm + u = v := ⟨_,rfl⟩
    rw [e4] at q3 hnx
    rw [e5] at q5 hnx
    have HNX := Lib.hid hnx
    have hG2 : Good v8 256 4 (pre ++ [x]) (N * 256 + u) := HG.out.snoc HV.out (by rw [HK.out];omega)
    have HG2 := Lib.hid hG2
    clear hnx e1 e2 e3 e4 e5 hhi hlo  hhi2 hlo2 hNlt hG2
    have hw1 : IntKind.i64.wrap ((k : Int) + 1) = (k : Int) + 1 := IntWalk.i64_in _ ⟨by omega,by omega⟩
    have hw2 : IntKind.i64.wrap (((k : Int) + 1) * 8) = ((k : Int) + 1) * 8 := IntWalk.i64_in _ ⟨by omega,by omega⟩
    have hd : decide ((32 : Int) < ((k : Int) + 1) * 8) = false := decide_eq_false (by omega)
    gi_wp2_with (gi_at_call 163;refine (CallsIn.inRound l (callsIn_wide.2 (parse8_some HV (Nat.le_trans hxl ht) _ hEW))).mono ?_;rintro e w2 ⟨rfl,hb2⟩)
    clear r0 r1 r2 rf e0 ef a0 a1 a2 af b0 z0
    have hP2 := hP.on hb2
    have c0 := after_cell hP2.z0
    have c1 := after_cell hP2.a0
    have HN : Hid (wid 4 = 32) := rfl
    refine round_after (by kernel_rfl) (by kernel_rfl) (by rintro ⟨a,w,h⟩;exact h) (by kernel_rfl) ?_
    repeat (go_big_quiet_step ((go_at_call 156;exact after_same (width_as HN _))))
    refine wpQuiet_nil ?_
    rintro _ ⟨y,rfl⟩
    have hP3 := hP2.on y.b
    have hyb := y.b
    generalize y.w = Y at hP3 hyb ⊢
    have hst := (Stp.call (tB := w.heap.size + 1 + 1 + 1 + 1 + 1) (sB := w.heap.size + 1 + 1 + 1 + 1 + 1 + 1) hb2 (by omega) (by omega)).trans (Stp.call hyb (by have := hP2.lt;omega) (by have := hP2.lt;omega))
    clear c0 c1 hP2 hP hb2 hyb y hw1 hw2 hd
    have hPd := hP3.on (Below.refl _ _).drew
    have hstd := hst.trans (Stp.drew (tB := w.heap.size + 1 + 1 + 1 + 1 + 1) (sB := w.heap.size + 1 + 1 + 1 + 1 + 1 + 1) Y)
    clear hP3 hst
    gi_wp2
    refine round_tail 11 (by kernel_rfl) (by kernel_rfl) (by rintro ⟨a,w,h⟩;exact h) (by kernel_rfl) ?_
    simp only [List.take_succ_cons,List.take_zero,List.drop_succ_cons,List.drop_zero]
    generalize Y.drew = Z at hPd hstd ⊢
    have hPd2 := hPd
    obtain ⟨r0,r1,r2,rf,e0,ef,a0,a1,a2,af,b0,z0,hlt3,hbl3⟩ := hPd
    have hwc : IntKind.i64.wrap 56 = 56 := by decide
    repeat still_step
    refine wpStill_nil ?_
    go_wp2
    gi_wp2
    have hz : hi2 = 0 := by
     have h3 := HNX.out.1
     omega
    have e3 : (N * 256 + u) / 18446744073709551616 = 0 := by rw [HNX.out.1,hz]
    have st := hstd.trans (((Stp.set (w.heap.size + 1 + 1) 1 (.int .u64 hi2) (by omega) (by omega)).trans (Stp.set (w.heap.size + 1 + 1) 2 (.int .u64 lo2) (by omega) (by omega))).trans (Stp.set (w.heap.size + 1 + 1) 1 (.int .u64 0) (by omega) (by omega)))
    exact ⟨st.1,st.2,N * 256 + u,HG2.out,by rw [e3,HNX.out.2];exact hPd2.put3 hi2 lo2⟩
 case done =>
  rintro D W hD ⟨N,hG,hP⟩ hK
  have hpr := good4 (index_no HI.out) hG
  obtain ⟨hi,hhi⟩ : ∃ hi,N / 18446744073709551616 = hi := ⟨_,rfl⟩
  obtain ⟨lo,hlo⟩ : ∃ lo,N % 18446744073709551616 = lo := ⟨_,rfl⟩
  have hNb := good4_lt hG
  have hlo2 : lo < 18446744073709551616 := by rw [← hlo];exact Nat.mod_lt _ (by omega)
  have hhi2 : hi < 18446744073709551616 := by rw [← hhi];omega
  have hval : ofA (some (4,N)) = .tuple #[.agg #[.int .i64 4,.int .u64 (hi : Int),.int .u64 (lo : Int)],.int .i64 0] := by rw [← hhi,← hlo];rfl
  rw [hhi,hlo] at hpr hP
  have HVAL := Lib.hid hval
  clear hval hhi hlo hG
  obtain ⟨p,hp⟩ : ∃ p,prT 4 hi lo = p := ⟨_,rfl⟩
  rw [hp] at hpr
  have HT := Lib.hid hp
  clear hp
  have hEW := hE.on hP.bl
  have hFq : Fence.wide.fn 158 := trivial
  have hP2 := hP
  obtain ⟨r0,r1,r2,rf,e0,ef,a0,a1,a2,af,b0,z0,hlt,hbl⟩ := hP2
  gi_wp2_with (gi_at_call 158;refine (callsIn_wide.2 (printaddr_as HT _ hEW hhi2 hlo2)).mono ?_;rintro e w2 ⟨rfl,hb2⟩;(have hK3 := (hb2.block D (Array.getElem?_eq_some_iff.1 hK).1).trans hK);(have hP3 := hP.on hb2);clear r0 r1 r2 rf e0 ef a0 a1 a2 af b0 z0 hlt hbl;obtain ⟨r0,r1,r2,rf,e0,ef,a0,a1,a2,af,b0,z0,hlt,hbl⟩ := hP3)
  ·have hK4 := (fourKept w2 ⟨w.heap.size,0,none⟩ ⟨w.heap.size,1,none⟩ ⟨w.heap.size,2,none⟩ ⟨w.heap.size + 1,0,none⟩ (.int .i64 0) (.int .u64 0) (.int .u64 0) (.int .i64 70)).same D _ hK3 rfl
   refine ⟨by simp,.inl ⟨_,_,rfl,run_takeDeferred hK4,?_⟩⟩
   have hX := ((hP.on hb2).tell 0 0 0 70).shut (o' := .deferred none) hK4 rfl (by omega)
   clear r0 r1 r2 rf e0 ef a0 a1 a2 af b0 z0 hlt hbl
   obtain ⟨x0,x1,x2,xe,xbl⟩ := hX
   have hne : p ≠ t := by rename_i hx;simpa using hx
   refine ⟨.tuple #[.agg #[.int .i64 0,.int .u64 0,.int .u64 0],.int .i64 70],?_,by rw [hpr,if_neg hne];rfl,xbl⟩
   simp [results,Tryz.f227,go_sem,x0,x1,x2,xe]
  ·have hK4 := (fourKept w2 ⟨w.heap.size,0,none⟩ ⟨w.heap.size,1,none⟩ ⟨w.heap.size,2,none⟩ ⟨w.heap.size + 1,0,none⟩ (.int .i64 4) (.int .u64 hi) (.int .u64 lo) (.int .i64 0)).same D _ hK3 rfl
   refine ⟨by simp,.inl ⟨_,_,rfl,run_takeDeferred hK4,?_⟩⟩
   have hX := ((hP.on hb2).tell 4 hi lo 0).shut (o' := .deferred none) hK4 rfl (by omega)
   clear r0 r1 r2 rf e0 ef a0 a1 a2 af b0 z0 hlt hbl
   obtain ⟨x0,x1,x2,xe,xbl⟩ := hX
   have he : p = t := by rename_i hx;simpa using hx
   refine ⟨.tuple #[.agg #[.int .i64 4,.int .u64 (hi : Int),.int .u64 (lo : Int)],.int .i64 0],?_,by rw [hpr,if_pos he,HVAL.out],xbl⟩
   simp [results,Tryz.f227,go_sem,x0,x1,x2,xe]
 case stop =>
  rintro D c pre W hD hpre ⟨rfl,hB,hX⟩ hK
  have hpr := bad4 (index_no HI.out) hpre hB
  have hX2 := hX
  obtain ⟨x0,x1,x2,xe,xbl⟩ := hX
  gi_wp2
  clear x0 x1 x2 xe xbl
  refine ⟨by simp,.inl ⟨_,_,rfl,run_takeDeferred hK,?_⟩⟩
  obtain ⟨x0,x1,x2,xe,xbl⟩ := hX2.pr.shut (o' := .deferred none) hK rfl (by omega)
  refine ⟨.tuple #[.agg #[.int .i64 0,.int .u64 0,.int .u64 0],.int .i64 70],?_,by rw [hpr];rfl,xbl⟩
  simp [results,Tryz.f227,go_sem,x0,x1,x2,xe]
end Go.Proofs.YtpkmekdpmkfcdaaGreatDoor.Pf
namespace Go.Proofs.YtpkmekdpmkfcdaaGreatDoor.Pf
open Go.RowKit Go.Shelf Go.Proofs.YtpkmekdpmkfcdaaGreatDoor.Wd Go.Proofs.YtpkmekdpmkfcdaaGreatDoor.Px Go.Proofs.YtpkmekdpmkfcdaaGreatDoor.By Go.Proofs.YtpkmekdpmkfcdaaGreatDoor.En Go.Proofs.YtpkmekdpmkfcdaaGreatDoor.Pl
theorem parseaddr_any (t : List UInt8) (ht : t.length ≤ 140737488355328) (w : World) (hE : Env w) :
  Calls Tryz.prog 227 #[.string ⟨t.toArray⟩] w fun e w' => e = .returned (ofA (prsA t)) ∧ Below w.heap.size w w' := by
 refine (callsIn_wide (n := 9)).1 ?_
 rcases index_spec 58 t with ⟨h,-⟩ | ⟨q,h,-⟩
 ·exact parseaddr_4 t ht w hE (Lib.hid h)
 ·exact parseaddr_6 t ht w hE q (Lib.hid h)
end Go.Proofs.YtpkmekdpmkfcdaaGreatDoor.Pf
