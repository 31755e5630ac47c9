/- Contracts: lists are kept in a book. Contract: a list of changes is kept, and all lists in it. Contract: a list of steps is kept, and all lists in it. -/
import Derived.Test.YtpkmekdpmkfcdaaGreatDoorKbA
import Derived.Test.YtpkmekdpmkfcdaaGreatDoorSsJ
import Derived.Deep.RegionLaw
import Derived.RegionTactic
namespace Go.Proofs.YtpkmekdpmkfcdaaGreatDoor.Kb
set_option linter.unusedVariables false
set_option linter.unusedSimpArgs false
open Go.RowKit Go.Proofs.YtpkmekdpmkfcdaaGreatDoor.Wd Go.Proofs.YtpkmekdpmkfcdaaGreatDoor.Px Go.Proofs.YtpkmekdpmkfcdaaGreatDoor.By Go.Proofs.YtpkmekdpmkfcdaaGreatDoor.Pf Go.Proofs.YtpkmekdpmkfcdaaGreatDoor.Sc
open Go.Proofs.YtpkmekdpmkfcdaaGreatDoor.Sr (own_same own_kind own_low CRow ORow OpO Opv Und fltC Lim LimO chC opC nl put14)
open Go.Proofs.YtpkmekdpmkfcdaaGreatDoor.Sr (bytes_copy bools_copy faults_copy changes_copy)
/-- boxes of scripts are left alone -/
def Bx (K : Nat) (W W' : World) : Prop := ∀ (g : Nat) (c : Array Value),g ≠ K → W.heap[g]? = some (.cells c 60 (0,0)) → W'.heap[g]? = W.heap[g]?
theorem Bx.refl (K : Nat) (W : World) : Bx K W W := fun _ _ _ _ => rfl
theorem Bx.trans {K : Nat} {A C D : World} (h : Bx K A C) (k : Bx K C D) : Bx K A D := fun g c hg hc => by have h1 := h g c hg hc;exact (k g c hg (h1.trans hc)).trans h1
theorem Bx.of_below {K : Nat} {W W' : World} (hb : Below W.heap.size W W') : Bx K W W' := fun g c _ hc => hb.block g (lt_of_cells hc)
theorem Fk.bx {κ : Kin} {K : Nat} {W W' : World} (h : Fk κ K W W') (hr : 60 ≠ κ.r) : Bx K W W' := fun g c hg hc => h.blk g c _ hr hg hc
theorem keep_pre {κ : Kin} {B K : Nat} {v0 a1 : Value} {vs us : List Value} {W W3 : World} (hp : Hp κ B K v0 a1 vs us W) (hb : Below W.heap.size W W3) (hK : K < W.heap.size) (o : Obj) :
  W3.cell? ⟨K,κ.o + 1,none⟩ = some a1 ∧ (W3.alloc o).cell? ⟨K,κ.o + 1,none⟩ = some a1 ∧ (W3.alloc o).ownsRow B κ.r 1 a1 us.length us ∧ W.heap.size ≤ (W3.alloc o).heap.size := by
 have h3 := hp.on hb hK
 have hb4 := one W3 o
 have h4 := h3.on hb4 (Nat.lt_of_lt_of_le hK hb.size)
 exact ⟨h3.c1,h4.c1,h4.o1,Nat.le_trans hb.size hb4.size⟩
theorem keep_post {κ : Kin} {B K : Nat} {v0 a1 : Value} {vs us : List Value} {W W3 W4 : World} (hp : Hp κ B K v0 a1 vs us W) (hb : Below W.heap.size W W3) (hK : K < W.heap.size) (hKB : K < B) (hfz : ∀ o,W.frozen? ⟨K,o,none⟩ = false) (o : Obj) {v' : Value} (ha : ApS 1 a1 us.length (W3.alloc o) v' W4) :
  W4.cell? ⟨K,κ.o + 1,none⟩ = some a1 ∧ ∀ o,W4.frozen? ⟨K,o,none⟩ = false := by
 have h3 := hp.on hb hK
 have hK3 := Nat.lt_of_lt_of_le hK hb.size
 have hb4 := one W3 o
 have h4 := h3.on hb4 hK3
 have hk := ha.grown.block K (Nat.lt_of_lt_of_le hK3 hb4.size) (kb_ne h4.o1 hKB)
 exact ⟨(World.cell?_of_block (a := ⟨K,κ.o + 1,none⟩) hk).trans h4.c1,fun q => ((World.frozen?_of_block (a := ⟨K,q,none⟩) hk).trans (World.frozen?_of_block (a := ⟨K,q,none⟩) (hb4.block K hK3))).trans ((World.frozen?_of_block (a := ⟨K,q,none⟩) (hb.block K hK)).trans (hfz q))⟩
theorem one_ofK {l : List Value} (h : l.all (fun u => u.oneCell') = true) : ∀ u ∈ l,u.oneCell' = true := List.all_eq_true.1 h
theorem infoKB : (Tryz.prog.info? 85).map (fun i => (i.zero,i.size,i.bytes)) = some (some (.slice none 0 0),1,24) := by kernel_rfl
set_option maxRecDepth 20000 in
set_option maxHeartbeats 4000000 in
theorem keep_B (B K : Nat) (s : St) (v : Value) (x : List UInt8) (w : World) (h : BkA B K s w) (hv : RowB B v x w) (ha : Sr.Apt (s.b.map (·.v) ++ [v])) (hn : s.b.length ≤ 1000000000000) :
  Calls Tryz.prog 44 #[.pointer (some ⟨K,0,none⟩),v] w fun e w' => e = .returned (.tuple #[]) ∧ (∃ u,BkA B K { s with b := s.b ++ [⟨v,u,x⟩] } w') ∧ Fu K w w' ∧ Bx K w w' := by
 obtain ⟨inf,hi0,hz0,hz1,hz2⟩ := info_parts infoKB
 obtain ⟨A,c,rfl,-⟩ := Sr.own_sl hv.1
 obtain ⟨m,hm⟩ : ∃ m,x.length = m := ⟨_,rfl⟩
 rw [hm] at hv ha ⊢
 have HM := Lib.hid hm
 clear hm
 obtain ⟨a0,a1,hp⟩ := h.hb
 have ba0 := h.ba
 have hkb := h.kb
 have hbw := h.bw
 have hkw := h.kw
 have HB := Lib.hid h
 have HA := Lib.hid ha
 obtain ⟨vs,hvs⟩ : ∃ l,s.b.map (·.v) = l := ⟨_,rfl⟩
 obtain ⟨us,hus⟩ : ∃ l,s.b.map (·.u) = l := ⟨_,rfl⟩
 rw [hvs,hus] at hp
 have hvl : vs.length = s.b.length := by rw [← hvs,List.length_map]
 have hul : us.length = s.b.length := by rw [← hus,List.length_map]
 obtain ⟨n,hnn⟩ : ∃ n,s.b.length = n := ⟨_,rfl⟩
 rw [hnn] at hvl hul
 have hn' : n ≤ 1000000000000 := by rw [← hnn];exact hn
 have HVL := Lib.hid hvl
 have HUL := Lib.hid hul
 have HVS := Lib.hid hvs
 have HUS := Lib.hid hus
 have hb0 := one w (.cells #[.slice A m c] 85)
 have hp0 := hp.on hb0 hkw
 have hv0 := hv.fu (Fu.of_below hb0 hkw) hkb
 have fk0 : Fk kB K w _ := Fk.of_below hb0 hkw
 have o00 : (w.alloc (.cells #[.slice A m c] 85)).ownsRow B 85 1 a0 n vs := by have h9 := hp0.o0;rwa [HVL.out] at h9
 have bw0 : B ≤ (w.alloc (.cells #[.slice A m c] 85)).heap.size := Nat.le_trans hbw hb0.size
 have c2 : w.cell? ⟨K,2,none⟩ = some a0 := hp.c0
 have c2a := keepc hb0 c2
 have kf0 : ∀ o,(w.alloc (.cells #[.slice A m c] 85)).frozen? ⟨K,o,none⟩ = false := fun o => (World.frozen?_of_block (a := ⟨K,o,none⟩) (hb0.block K hkw)).trans (ba0.fz o)
 have hKa : K < (w.alloc (.cells #[.slice A m c] 85)).heap.size := Nat.lt_of_lt_of_le hkw hb0.size
 clear hvl hul hvs hus hnn hp ba0 h ha
 go_enter Tryz.func44,Tryz.ntmps44
 go_wp2_with (at_builtin;go_loud (refine wpList_append_s rfl _ _ 39 rfl B 85 inf (.slice none 0 0) 1 24 Tryz.underlying39 hi0 hz0 hz1 hz2 rfl (by decide) a0 n vs rfl o00 ⟨w.heap.size,0,none⟩ 1 [.slice A m c] rfl rfl (Sr.cells_at rfl _ _) ?c1 ?c2 ?c3 ?c4 ?_))
 case c1 => first | exact one_ofK rfl | rfl
 case c2 => first | omega | (unfold maxLen;omega)
 case c3 => omega
 case c4 => first | exact bw0 | omega
 intro v0' w1 ho0 ha0
 obtain ⟨g0,k0,rfl,-,-⟩ := ho0.form (by omega)
 obtain ⟨hp1,fk1⟩ := hp0.app0 hkb bw0 (by rw [HVL.out];exact ha0) (by rw [HVL.out];exact ho0)
 have hkK := ha0.grown.block K hKa (kb_ne o00 hkb)
 have k2 : w1.cell? ⟨K,2,none⟩ = some a0 := (World.cell?_of_block (a := ⟨K,2,none⟩) hkK).trans c2a
 have kf : ∀ o,w1.frozen? ⟨K,o,none⟩ = false := fun o => (World.frozen?_of_block (a := ⟨K,o,none⟩) hkK).trans (kf0 o)
 have fk2 := fk0.trans fk1
 clear hp0 ho0 ha0 hkK o00 c2a kf0 hKa bw0 fk0 fk1 hb0 c2
 go_upto_region 1 with fail
 have fz1 := fk2.fz (HB.out.ba.fz)
 have hv1 := hv.fu (fk2.fu frU_B) hkb
 have hs1 := fk2.size
 clear k2 kf hv0
 change Code.wp _ _ _ _ (w1.setCell ⟨K,2,none⟩ (.slice (some ⟨g0,0,none⟩) (n + 1) k0))
 have hp1' : Hp kB B K (.slice (some ⟨g0,0,none⟩) (n + 1) k0) a1 (vs ++ [.slice A m c]) us (w1.setCell ⟨K,2,none⟩ (.slice (some ⟨g0,0,none⟩) (n + 1) k0)) := hp1
 have fk2' : Fk kB K w (w1.setCell ⟨K,2,none⟩ (.slice (some ⟨g0,0,none⟩) (n + 1) k0)) := fk2
 have hv1' : RowB B (.slice A m c) x (w1.setCell ⟨K,2,none⟩ (.slice (some ⟨g0,0,none⟩) (n + 1) k0)) := hv1
 have fz1' : ∀ o,(w1.setCell ⟨K,2,none⟩ (.slice (some ⟨g0,0,none⟩) (n + 1) k0)).frozen? ⟨K,o,none⟩ = false := fz1
 have hs1' : w.heap.size ≤ (w1.setCell ⟨K,2,none⟩ (.slice (some ⟨g0,0,none⟩) (n + 1) k0)).heap.size := hs1
 clear hp1 fk2 hv1 fz1 hs1
 generalize w1.setCell ⟨K,2,none⟩ (.slice (some ⟨g0,0,none⟩) (n + 1) k0) = W1 at hp1' fk2' hv1' fz1' hs1' ⊢
 have hkW : K < W1.heap.size := by omega
 have hbd : Below W1.heap.size W1 W1.drew := (Below.refl _ _).drew
 have hvD := hv1'.fu (Fu.of_below hbd hkW) hkb
 have hsD := Shows.of_own (base := B) (e := 5) (c := c) (by have h9 := hvD.1;rwa [← HM.out] at h9)
 have hpD := hp1'.on hbd hkW
 have c3d : W1.drew.cell? ⟨K,3,none⟩ = some a1 := hpD.c1
 have hm' : m ≤ 2000000 := by have h9 := hvD.2;rw [HM.out] at h9;exact h9
 have hpre : ∀ (w3 : World),Below W1.drew.heap.size W1.drew w3 → ∀ (Au : Option Addr) (cu : Nat),w3.cell? ⟨K,3,none⟩ = some a1 ∧ (w3.alloc (.cells #[.slice Au m cu] 85)).cell? ⟨K,3,none⟩ = some a1 ∧ (w3.alloc (.cells #[.slice Au m cu] 85)).ownsRow B 85 1 a1 n us ∧ B ≤ (w3.alloc (.cells #[.slice Au m cu] 85)).heap.size := fun w3 hb3 Au cu => by
  have h9 := keep_pre hpD hb3 hkW (.cells #[.slice Au m cu] 85)
  rw [HUL.out] at h9
  exact ⟨h9.1,h9.2.1,h9.2.2.1,Nat.le_trans (show B ≤ W1.drew.heap.size from by have : W1.drew.heap.size = W1.heap.size := rfl;omega) h9.2.2.2⟩
 have hpost : ∀ (w3 : World),Below W1.drew.heap.size W1.drew w3 → ∀ (Au : Option Addr) (cu : Nat) (v1' : Value) (w4 : World),ApS 1 a1 n (w3.alloc (.cells #[.slice Au m cu] 85)) v1' w4 → w4.cell? ⟨K,3,none⟩ = some a1 ∧ ∀ o,w4.frozen? ⟨K,o,none⟩ = false := fun w3 hb3 Au cu v1' w4 ha => by
  refine keep_post hpD hb3 hkW hkb fz1' (.cells #[.slice Au m cu] 85) (v' := v1') ?_
  rw [HUL.out]
  exact ha
 go_region_law (first
  | (go_simp;go_at_call 38;refine (bytes_copy HM A c W1.drew hm' hsD).mono ?_;rintro e w3 ⟨⟨Au,cu,rfl,hu⟩,hb3⟩;obtain ⟨c3c,c3e,o14,bw4⟩ := hpre w3 hb3 Au cu)
  | (go_loud (refine step_append_s rfl _ _ 39 rfl B 85 inf (.slice none 0 0) 1 24 Tryz.underlying39 hi0 hz0 hz1 hz2 rfl (by decide) a1 n us rfl o14 ⟨w3.heap.size,0,none⟩ 1 [.slice Au m cu] rfl rfl (Sr.cells_at rfl _ _) (one_ofK rfl) (by unfold maxLen;omega) (by omega) bw4 ?_);intro v1' w4 ho1 ha1;obtain ⟨g1,k1,rfl,-,-⟩ := ho1.form (by omega);obtain ⟨k43,fz4⟩ := hpost w3 hb3 Au cu _ w4 ha1))
 all_goals
  have hkd : K < W1.drew.heap.size := hkW
  have hp3 := hpD.on hb3 hkd
  have hk3 : K < w3.heap.size := Nat.lt_of_lt_of_le hkd hb3.size
  have hb4 := one w3 (.cells #[.slice Au m cu] 85)
  have hp4 := hp3.on hb4 hk3
  obtain ⟨hpF,fkF⟩ := hp4.app1 hkb bw4 (by rw [HUL.out];exact ha1) (by rw [HUL.out];exact ho1)
  have fk3 : Fk kB K W1.drew w3 := Fk.of_below hb3 hkd
  have fk4 : Fk kB K w3 _ := Fk.of_below hb4 hk3
  have fk34 := fk4.trans fkF
  have fkA := (fk2'.trans (Fk.of_below hbd hkW)).trans (fk3.trans fk34)
  have hu3 : RowB B (.slice Au m cu) x w3 := ⟨by have h9 := own_low hu (show B ≤ W1.drew.heap.size from by have : W1.drew.heap.size = W1.heap.size := rfl;omega);rw [HM.out];exact h9,hvD.2⟩
  have huF := hu3.fu (fk34.fu frU_B) hkb
  have hvF := hv.fu (fkA.fu frU_B) hkb
  have hpG : Hp kB B K (.slice (some ⟨g0,0,none⟩) (n + 1) k0) (.slice (some ⟨g1,0,none⟩) (n + 1) k1) (s.b.map (·.v) ++ [.slice A m c]) (s.b.map (·.u) ++ [.slice Au m cu]) (w4.setCell ⟨K,kB.o + 1,none⟩ (.slice (some ⟨g1,0,none⟩) (n + 1) k1)) := by rw [HVS.out,HUS.out];exact hpF
  have hF := HB.out.addB fkA ⟨_,_,hpG⟩ hvF huF HA.out
  have fuA := fkA.fu frU_B
  have bxA := fkA.bx (by decide)
  clear hpF fkF fk3 fk4 fk34 fkA hu3 huF hvF hpG ha1 ho1 o14 hp4 hp3 c3c c3e hu k43
  go_wp2
  go_end0
  exact ⟨rfl,⟨_,hF⟩,fuA,bxA⟩
theorem infoKL : (Tryz.prog.info? 106).map (fun i => (i.zero,i.size,i.bytes)) = some (some (.slice none 0 0),1,24) := by kernel_rfl
set_option maxRecDepth 20000 in
set_option maxHeartbeats 4000000 in
theorem keep_L (B K : Nat) (s : St) (v : Value) (x : List Bool) (w : World) (h : BkA B K s w) (hv : RowL B v x w) (ha : Sr.Apt (s.l.map (·.v) ++ [v])) (hn : s.l.length ≤ 1000000000000) :
  Calls Tryz.prog 46 #[.pointer (some ⟨K,0,none⟩),v] w fun e w' => e = .returned (.tuple #[]) ∧ (∃ u,BkA B K { s with l := s.l ++ [⟨v,u,x⟩] } w') ∧ Fu K w w' ∧ Bx K w w' := by
 obtain ⟨inf,hi0,hz0,hz1,hz2⟩ := info_parts infoKL
 obtain ⟨A,c,rfl,-⟩ := Sr.own_sl hv.1
 obtain ⟨m,hm⟩ : ∃ m,x.length = m := ⟨_,rfl⟩
 rw [hm] at hv ha ⊢
 have HM := Lib.hid hm
 clear hm
 obtain ⟨a0,a1,hp⟩ := h.hl
 have ba0 := h.ba
 have hkb := h.kb
 have hbw := h.bw
 have hkw := h.kw
 have HB := Lib.hid h
 have HA := Lib.hid ha
 obtain ⟨vs,hvs⟩ : ∃ l,s.l.map (·.v) = l := ⟨_,rfl⟩
 obtain ⟨us,hus⟩ : ∃ l,s.l.map (·.u) = l := ⟨_,rfl⟩
 rw [hvs,hus] at hp
 have hvl : vs.length = s.l.length := by rw [← hvs,List.length_map]
 have hul : us.length = s.l.length := by rw [← hus,List.length_map]
 obtain ⟨n,hnn⟩ : ∃ n,s.l.length = n := ⟨_,rfl⟩
 rw [hnn] at hvl hul
 have hn' : n ≤ 1000000000000 := by rw [← hnn];exact hn
 have HVL := Lib.hid hvl
 have HUL := Lib.hid hul
 have HVS := Lib.hid hvs
 have HUS := Lib.hid hus
 have hb0 := one w (.cells #[.slice A m c] 106)
 have hp0 := hp.on hb0 hkw
 have hv0 := hv.fu (Fu.of_below hb0 hkw) hkb
 have fk0 : Fk kL K w _ := Fk.of_below hb0 hkw
 have o00 : (w.alloc (.cells #[.slice A m c] 106)).ownsRow B 106 1 a0 n vs := by have h9 := hp0.o0;rwa [HVL.out] at h9
 have bw0 : B ≤ (w.alloc (.cells #[.slice A m c] 106)).heap.size := Nat.le_trans hbw hb0.size
 have c2 : w.cell? ⟨K,5,none⟩ = some a0 := hp.c0
 have c2a := keepc hb0 c2
 have kf0 : ∀ o,(w.alloc (.cells #[.slice A m c] 106)).frozen? ⟨K,o,none⟩ = false := fun o => (World.frozen?_of_block (a := ⟨K,o,none⟩) (hb0.block K hkw)).trans (ba0.fz o)
 have hKa : K < (w.alloc (.cells #[.slice A m c] 106)).heap.size := Nat.lt_of_lt_of_le hkw hb0.size
 clear hvl hul hvs hus hnn hp ba0 h ha
 go_enter Tryz.func46,Tryz.ntmps46
 go_wp2_with (at_builtin;go_loud (refine wpList_append_s rfl _ _ 40 rfl B 106 inf (.slice none 0 0) 1 24 Tryz.underlying40 hi0 hz0 hz1 hz2 rfl (by decide) a0 n vs rfl o00 ⟨w.heap.size,0,none⟩ 1 [.slice A m c] rfl rfl (Sr.cells_at rfl _ _) ?c1 ?c2 ?c3 ?c4 ?_))
 case c1 => first | exact one_ofK rfl | rfl
 case c2 => first | omega | (unfold maxLen;omega)
 case c3 => omega
 case c4 => first | exact bw0 | omega
 intro v0' w1 ho0 ha0
 obtain ⟨g0,k0,rfl,-,-⟩ := ho0.form (by omega)
 obtain ⟨hp1,fk1⟩ := hp0.app0 hkb bw0 (by rw [HVL.out];exact ha0) (by rw [HVL.out];exact ho0)
 have hkK := ha0.grown.block K hKa (kb_ne o00 hkb)
 have k2 : w1.cell? ⟨K,5,none⟩ = some a0 := (World.cell?_of_block (a := ⟨K,5,none⟩) hkK).trans c2a
 have kf : ∀ o,w1.frozen? ⟨K,o,none⟩ = false := fun o => (World.frozen?_of_block (a := ⟨K,o,none⟩) hkK).trans (kf0 o)
 have fk2 := fk0.trans fk1
 clear hp0 ho0 ha0 hkK o00 c2a kf0 hKa bw0 fk0 fk1 hb0 c2
 go_upto_region 1 with fail
 have fz1 := fk2.fz (HB.out.ba.fz)
 have hv1 := hv.fu (fk2.fu frU_L) hkb
 have hs1 := fk2.size
 clear k2 kf hv0
 change Code.wp _ _ _ _ (w1.setCell ⟨K,5,none⟩ (.slice (some ⟨g0,0,none⟩) (n + 1) k0))
 have hp1' : Hp kL B K (.slice (some ⟨g0,0,none⟩) (n + 1) k0) a1 (vs ++ [.slice A m c]) us (w1.setCell ⟨K,5,none⟩ (.slice (some ⟨g0,0,none⟩) (n + 1) k0)) := hp1
 have fk2' : Fk kL K w (w1.setCell ⟨K,5,none⟩ (.slice (some ⟨g0,0,none⟩) (n + 1) k0)) := fk2
 have hv1' : RowL B (.slice A m c) x (w1.setCell ⟨K,5,none⟩ (.slice (some ⟨g0,0,none⟩) (n + 1) k0)) := hv1
 have fz1' : ∀ o,(w1.setCell ⟨K,5,none⟩ (.slice (some ⟨g0,0,none⟩) (n + 1) k0)).frozen? ⟨K,o,none⟩ = false := fz1
 have hs1' : w.heap.size ≤ (w1.setCell ⟨K,5,none⟩ (.slice (some ⟨g0,0,none⟩) (n + 1) k0)).heap.size := hs1
 clear hp1 fk2 hv1 fz1 hs1
 generalize w1.setCell ⟨K,5,none⟩ (.slice (some ⟨g0,0,none⟩) (n + 1) k0) = W1 at hp1' fk2' hv1' fz1' hs1' ⊢
 have hkW : K < W1.heap.size := by omega
 have hbd : Below W1.heap.size W1 W1.drew := (Below.refl _ _).drew
 have hvD := hv1'.fu (Fu.of_below hbd hkW) hkb
 have hsD := Shows.of_own (base := B) (e := 4) (c := c) (by have h9 := hvD.1;rwa [← HM.out] at h9)
 have hpD := hp1'.on hbd hkW
 have c3d : W1.drew.cell? ⟨K,6,none⟩ = some a1 := hpD.c1
 have hm' : m ≤ 2000000 := by have h9 := hvD.2;rw [HM.out] at h9;exact h9
 have hpre : ∀ (w3 : World),Below W1.drew.heap.size W1.drew w3 → ∀ (Au : Option Addr) (cu : Nat),w3.cell? ⟨K,6,none⟩ = some a1 ∧ (w3.alloc (.cells #[.slice Au m cu] 106)).cell? ⟨K,6,none⟩ = some a1 ∧ (w3.alloc (.cells #[.slice Au m cu] 106)).ownsRow B 106 1 a1 n us ∧ B ≤ (w3.alloc (.cells #[.slice Au m cu] 106)).heap.size := fun w3 hb3 Au cu => by
  have h9 := keep_pre hpD hb3 hkW (.cells #[.slice Au m cu] 106)
  rw [HUL.out] at h9
  exact ⟨h9.1,h9.2.1,h9.2.2.1,Nat.le_trans (show B ≤ W1.drew.heap.size from by have : W1.drew.heap.size = W1.heap.size := rfl;omega) h9.2.2.2⟩
 have hpost : ∀ (w3 : World),Below W1.drew.heap.size W1.drew w3 → ∀ (Au : Option Addr) (cu : Nat) (v1' : Value) (w4 : World),ApS 1 a1 n (w3.alloc (.cells #[.slice Au m cu] 106)) v1' w4 → w4.cell? ⟨K,6,none⟩ = some a1 ∧ ∀ o,w4.frozen? ⟨K,o,none⟩ = false := fun w3 hb3 Au cu v1' w4 ha => by
  refine keep_post hpD hb3 hkW hkb fz1' (.cells #[.slice Au m cu] 106) (v' := v1') ?_
  rw [HUL.out]
  exact ha
 go_region_law (first
  | (go_simp;go_at_call 83;refine (bools_copy HM A c W1.drew hm' hsD).mono ?_;rintro e w3 ⟨⟨Au,cu,rfl,hu⟩,hb3⟩;obtain ⟨c3c,c3e,o14,bw4⟩ := hpre w3 hb3 Au cu)
  | (go_loud (refine step_append_s rfl _ _ 40 rfl B 106 inf (.slice none 0 0) 1 24 Tryz.underlying40 hi0 hz0 hz1 hz2 rfl (by decide) a1 n us rfl o14 ⟨w3.heap.size,0,none⟩ 1 [.slice Au m cu] rfl rfl (Sr.cells_at rfl _ _) (one_ofK rfl) (by unfold maxLen;omega) (by omega) bw4 ?_);intro v1' w4 ho1 ha1;obtain ⟨g1,k1,rfl,-,-⟩ := ho1.form (by omega);obtain ⟨k43,fz4⟩ := hpost w3 hb3 Au cu _ w4 ha1))
 all_goals
  have hkd : K < W1.drew.heap.size := hkW
  have hp3 := hpD.on hb3 hkd
  have hk3 : K < w3.heap.size := Nat.lt_of_lt_of_le hkd hb3.size
  have hb4 := one w3 (.cells #[.slice Au m cu] 106)
  have hp4 := hp3.on hb4 hk3
  obtain ⟨hpF,fkF⟩ := hp4.app1 hkb bw4 (by rw [HUL.out];exact ha1) (by rw [HUL.out];exact ho1)
  have fk3 : Fk kL K W1.drew w3 := Fk.of_below hb3 hkd
  have fk4 : Fk kL K w3 _ := Fk.of_below hb4 hk3
  have fk34 := fk4.trans fkF
  have fkA := (fk2'.trans (Fk.of_below hbd hkW)).trans (fk3.trans fk34)
  have hu3 : RowL B (.slice Au m cu) x w3 := ⟨by have h9 := own_low hu (show B ≤ W1.drew.heap.size from by have : W1.drew.heap.size = W1.heap.size := rfl;omega);rw [HM.out];exact h9,hvD.2⟩
  have huF := hu3.fu (fk34.fu frU_L) hkb
  have hvF := hv.fu (fkA.fu frU_L) hkb
  have hpG : Hp kL B K (.slice (some ⟨g0,0,none⟩) (n + 1) k0) (.slice (some ⟨g1,0,none⟩) (n + 1) k1) (s.l.map (·.v) ++ [.slice A m c]) (s.l.map (·.u) ++ [.slice Au m cu]) (w4.setCell ⟨K,kL.o + 1,none⟩ (.slice (some ⟨g1,0,none⟩) (n + 1) k1)) := by rw [HVS.out,HUS.out];exact hpF
  have hF := HB.out.addL fkA ⟨_,_,hpG⟩ hvF huF HA.out
  have fuA := fkA.fu frU_L
  have bxA := fkA.bx (by decide)
  clear hpF fkF fk3 fk4 fk34 fkA hu3 huF hvF hpG ha1 ho1 o14 hp4 hp3 c3c c3e hu k43
  go_wp2
  go_end0
  exact ⟨rfl,⟨_,hF⟩,fuA,bxA⟩
theorem infoKF : (Tryz.prog.info? 105).map (fun i => (i.zero,i.size,i.bytes)) = some (some (.slice none 0 0),1,24) := by kernel_rfl
set_option maxRecDepth 20000 in
set_option maxHeartbeats 4000000 in
theorem keep_F (B K : Nat) (s : St) (v : Value) (x : List (Int × Int)) (w : World) (h : BkA B K s w) (hv : RowF B v x w) (ha : Sr.Apt (s.f.map (·.v) ++ [v])) (hn : s.f.length ≤ 1000000000000) :
  Calls Tryz.prog 45 #[.pointer (some ⟨K,0,none⟩),v] w fun e w' => e = .returned (.tuple #[]) ∧ (∃ u,BkA B K { s with f := s.f ++ [⟨v,u,x⟩] } w') ∧ Fu K w w' ∧ Bx K w w' := by
 obtain ⟨inf,hi0,hz0,hz1,hz2⟩ := info_parts infoKF
 obtain ⟨A,c,rfl,-⟩ := Sr.own_sl hv.1
 obtain ⟨m,hm⟩ : ∃ m,x.length = m := ⟨_,rfl⟩
 rw [hm] at hv ha ⊢
 have HM := Lib.hid hm
 clear hm
 obtain ⟨a0,a1,hp⟩ := h.hf
 have ba0 := h.ba
 have hkb := h.kb
 have hbw := h.bw
 have hkw := h.kw
 have HB := Lib.hid h
 have HA := Lib.hid ha
 obtain ⟨vs,hvs⟩ : ∃ l,s.f.map (·.v) = l := ⟨_,rfl⟩
 obtain ⟨us,hus⟩ : ∃ l,s.f.map (·.u) = l := ⟨_,rfl⟩
 rw [hvs,hus] at hp
 have hvl : vs.length = s.f.length := by rw [← hvs,List.length_map]
 have hul : us.length = s.f.length := by rw [← hus,List.length_map]
 obtain ⟨n,hnn⟩ : ∃ n,s.f.length = n := ⟨_,rfl⟩
 rw [hnn] at hvl hul
 have hn' : n ≤ 1000000000000 := by rw [← hnn];exact hn
 have HVL := Lib.hid hvl
 have HUL := Lib.hid hul
 have HVS := Lib.hid hvs
 have HUS := Lib.hid hus
 have hb0 := one w (.cells #[.slice A m c] 105)
 have hp0 := hp.on hb0 hkw
 have hv0 := hv.fu (Fu.of_below hb0 hkw) hkb
 have fk0 : Fk kF K w _ := Fk.of_below hb0 hkw
 have o00 : (w.alloc (.cells #[.slice A m c] 105)).ownsRow B 105 1 a0 n vs := by have h9 := hp0.o0;rwa [HVL.out] at h9
 have bw0 : B ≤ (w.alloc (.cells #[.slice A m c] 105)).heap.size := Nat.le_trans hbw hb0.size
 have c2 : w.cell? ⟨K,41,none⟩ = some a0 := hp.c0
 have c2a := keepc hb0 c2
 have kf0 : ∀ o,(w.alloc (.cells #[.slice A m c] 105)).frozen? ⟨K,o,none⟩ = false := fun o => (World.frozen?_of_block (a := ⟨K,o,none⟩) (hb0.block K hkw)).trans (ba0.fz o)
 have hKa : K < (w.alloc (.cells #[.slice A m c] 105)).heap.size := Nat.lt_of_lt_of_le hkw hb0.size
 clear hvl hul hvs hus hnn hp ba0 h ha
 go_enter Tryz.func45,Tryz.ntmps45
 go_wp2_with (at_builtin;go_loud (refine wpList_append_s rfl _ _ 52 rfl B 105 inf (.slice none 0 0) 1 24 Tryz.underlying52 hi0 hz0 hz1 hz2 rfl (by decide) a0 n vs rfl o00 ⟨w.heap.size,0,none⟩ 1 [.slice A m c] rfl rfl (Sr.cells_at rfl _ _) ?c1 ?c2 ?c3 ?c4 ?_))
 case c1 => first | exact one_ofK rfl | rfl
 case c2 => first | omega | (unfold maxLen;omega)
 case c3 => omega
 case c4 => first | exact bw0 | omega
 intro v0' w1 ho0 ha0
 obtain ⟨g0,k0,rfl,-,-⟩ := ho0.form (by omega)
 obtain ⟨hp1,fk1⟩ := hp0.app0 hkb bw0 (by rw [HVL.out];exact ha0) (by rw [HVL.out];exact ho0)
 have hkK := ha0.grown.block K hKa (kb_ne o00 hkb)
 have k2 : w1.cell? ⟨K,41,none⟩ = some a0 := (World.cell?_of_block (a := ⟨K,41,none⟩) hkK).trans c2a
 have kf : ∀ o,w1.frozen? ⟨K,o,none⟩ = false := fun o => (World.frozen?_of_block (a := ⟨K,o,none⟩) hkK).trans (kf0 o)
 have fk2 := fk0.trans fk1
 clear hp0 ho0 ha0 hkK o00 c2a kf0 hKa bw0 fk0 fk1 hb0 c2
 go_upto_region 1 with fail
 have fz1 := fk2.fz (HB.out.ba.fz)
 have hv1 := hv.fu (fk2.fu frU_F) hkb
 have hs1 := fk2.size
 clear k2 kf hv0
 change Code.wp _ _ _ _ (w1.setCell ⟨K,41,none⟩ (.slice (some ⟨g0,0,none⟩) (n + 1) k0))
 have hp1' : Hp kF B K (.slice (some ⟨g0,0,none⟩) (n + 1) k0) a1 (vs ++ [.slice A m c]) us (w1.setCell ⟨K,41,none⟩ (.slice (some ⟨g0,0,none⟩) (n + 1) k0)) := hp1
 have fk2' : Fk kF K w (w1.setCell ⟨K,41,none⟩ (.slice (some ⟨g0,0,none⟩) (n + 1) k0)) := fk2
 have hv1' : RowF B (.slice A m c) x (w1.setCell ⟨K,41,none⟩ (.slice (some ⟨g0,0,none⟩) (n + 1) k0)) := hv1
 have fz1' : ∀ o,(w1.setCell ⟨K,41,none⟩ (.slice (some ⟨g0,0,none⟩) (n + 1) k0)).frozen? ⟨K,o,none⟩ = false := fz1
 have hs1' : w.heap.size ≤ (w1.setCell ⟨K,41,none⟩ (.slice (some ⟨g0,0,none⟩) (n + 1) k0)).heap.size := hs1
 clear hp1 fk2 hv1 fz1 hs1
 generalize w1.setCell ⟨K,41,none⟩ (.slice (some ⟨g0,0,none⟩) (n + 1) k0) = W1 at hp1' fk2' hv1' fz1' hs1' ⊢
 have hkW : K < W1.heap.size := by omega
 have hbd : Below W1.heap.size W1 W1.drew := (Below.refl _ _).drew
 have hvD := hv1'.fu (Fu.of_below hbd hkW) hkb
 have hsD := Sr.own_faults (B := B) (c := c) (by have h9 := hvD.1;rwa [← HM.out] at h9)
 have hpD := hp1'.on hbd hkW
 have c3d : W1.drew.cell? ⟨K,42,none⟩ = some a1 := hpD.c1
 have hm' : m ≤ 2000000 := by have h9 := hvD.2;rw [HM.out] at h9;exact h9
 have hpre : ∀ (w3 : World),Below W1.drew.heap.size W1.drew w3 → ∀ (Au : Option Addr) (cu : Nat),w3.cell? ⟨K,42,none⟩ = some a1 ∧ (w3.alloc (.cells #[.slice Au m cu] 105)).cell? ⟨K,42,none⟩ = some a1 ∧ (w3.alloc (.cells #[.slice Au m cu] 105)).ownsRow B 105 1 a1 n us ∧ B ≤ (w3.alloc (.cells #[.slice Au m cu] 105)).heap.size := fun w3 hb3 Au cu => by
  have h9 := keep_pre hpD hb3 hkW (.cells #[.slice Au m cu] 105)
  rw [HUL.out] at h9
  exact ⟨h9.1,h9.2.1,h9.2.2.1,Nat.le_trans (show B ≤ W1.drew.heap.size from by have : W1.drew.heap.size = W1.heap.size := rfl;omega) h9.2.2.2⟩
 have hpost : ∀ (w3 : World),Below W1.drew.heap.size W1.drew w3 → ∀ (Au : Option Addr) (cu : Nat) (v1' : Value) (w4 : World),ApS 1 a1 n (w3.alloc (.cells #[.slice Au m cu] 105)) v1' w4 → w4.cell? ⟨K,42,none⟩ = some a1 ∧ ∀ o,w4.frozen? ⟨K,o,none⟩ = false := fun w3 hb3 Au cu v1' w4 ha => by
  refine keep_post hpD hb3 hkW hkb fz1' (.cells #[.slice Au m cu] 105) (v' := v1') ?_
  rw [HUL.out]
  exact ha
 go_region_law (first
  | (go_simp;go_at_call 82;refine (faults_copy HM A c W1.drew hm' hsD).mono ?_;rintro e w3 ⟨⟨Au,cu,rfl,hu⟩,hb3⟩;obtain ⟨c3c,c3e,o14,bw4⟩ := hpre w3 hb3 Au cu)
  | (go_loud (refine step_append_s rfl _ _ 52 rfl B 105 inf (.slice none 0 0) 1 24 Tryz.underlying52 hi0 hz0 hz1 hz2 rfl (by decide) a1 n us rfl o14 ⟨w3.heap.size,0,none⟩ 1 [.slice Au m cu] rfl rfl (Sr.cells_at rfl _ _) (one_ofK rfl) (by unfold maxLen;omega) (by omega) bw4 ?_);intro v1' w4 ho1 ha1;obtain ⟨g1,k1,rfl,-,-⟩ := ho1.form (by omega);obtain ⟨k43,fz4⟩ := hpost w3 hb3 Au cu _ w4 ha1))
 all_goals
  have hkd : K < W1.drew.heap.size := hkW
  have hp3 := hpD.on hb3 hkd
  have hk3 : K < w3.heap.size := Nat.lt_of_lt_of_le hkd hb3.size
  have hb4 := one w3 (.cells #[.slice Au m cu] 105)
  have hp4 := hp3.on hb4 hk3
  obtain ⟨hpF,fkF⟩ := hp4.app1 hkb bw4 (by rw [HUL.out];exact ha1) (by rw [HUL.out];exact ho1)
  have fk3 : Fk kF K W1.drew w3 := Fk.of_below hb3 hkd
  have fk4 : Fk kF K w3 _ := Fk.of_below hb4 hk3
  have fk34 := fk4.trans fkF
  have fkA := (fk2'.trans (Fk.of_below hbd hkW)).trans (fk3.trans fk34)
  have hu3 : RowF B (.slice Au m cu) x w3 := ⟨by have h9 := own_low hu (show B ≤ W1.drew.heap.size from by have : W1.drew.heap.size = W1.heap.size := rfl;omega);rw [HM.out];exact h9,hvD.2⟩
  have huF := hu3.fu (fk34.fu frU_F) hkb
  have hvF := hv.fu (fkA.fu frU_F) hkb
  have hpG : Hp kF B K (.slice (some ⟨g0,0,none⟩) (n + 1) k0) (.slice (some ⟨g1,0,none⟩) (n + 1) k1) (s.f.map (·.v) ++ [.slice A m c]) (s.f.map (·.u) ++ [.slice Au m cu]) (w4.setCell ⟨K,kF.o + 1,none⟩ (.slice (some ⟨g1,0,none⟩) (n + 1) k1)) := by rw [HVS.out,HUS.out];exact hpF
  have hF := HB.out.addF fkA ⟨_,_,hpG⟩ hvF huF HA.out
  have fuA := fkA.fu frU_F
  have bxA := fkA.bx (by decide)
  clear hpF fkF fk3 fk4 fk34 fkA hu3 huF hvF hpG ha1 ho1 o14 hp4 hp3 c3c c3e hu k43
  go_wp2
  go_end0
  exact ⟨rfl,⟨_,hF⟩,fuA,bxA⟩
end Go.Proofs.YtpkmekdpmkfcdaaGreatDoor.Kb
namespace Go.Proofs.YtpkmekdpmkfcdaaGreatDoor.Kb
set_option linter.unusedVariables false
set_option linter.unusedSimpArgs false
open Go.RowKit Go.Proofs.YtpkmekdpmkfcdaaGreatDoor.Wd Go.Proofs.YtpkmekdpmkfcdaaGreatDoor.Px Go.Proofs.YtpkmekdpmkfcdaaGreatDoor.By Go.Proofs.YtpkmekdpmkfcdaaGreatDoor.Pf Go.Proofs.YtpkmekdpmkfcdaaGreatDoor.Sc
open Go.Proofs.YtpkmekdpmkfcdaaGreatDoor.Sr (own_same own_kind own_low CRow ORow OpO Opv Und fltC Lim LimO chC opC nl put14)
open Go.Proofs.YtpkmekdpmkfcdaaGreatDoor.Sr (bytes_copy bools_copy faults_copy changes_copy)
theorem apt_pre {a b : List Value} (h : Sr.Apt (a ++ b)) : Sr.Apt a := fun i j v u g hv hu => h i j v u g (by rw [List.getElem?_append_left (List.getElem?_eq_some_iff.1 hv).1];exact hv) (by rw [List.getElem?_append_left (List.getElem?_eq_some_iff.1 hu).1];exact hu)
theorem take_next {α : Type} {l : List α} {q : Nat} {x : α} (h : l[q]? = some x) : l.take (q + 1) = l.take q ++ [x] := by rw [List.take_add_one,h];rfl
theorem infoKC : (Tryz.prog.info? 22).map (fun i => (i.zero,i.size,i.bytes)) = some (some (.slice none 0 0),1,24) := by kernel_rfl
set_option maxRecDepth 20000 in
set_option maxHeartbeats 8000000 in
theorem keep_C (B K : Nat) (s0 : St) (v : Value) (x : List Chg) (kvs : List Value) (w : World) (h0 : BkA B K s0 w) (hC : CRow B v x kvs w) (hL : ∀ c ∈ x,Lim c) (hx : x.length ≤ 2000000) (hab : Sr.Apt (s0.b.map (·.v) ++ kvs)) (hac : Sr.Apt (s0.c.map (·.v) ++ [v])) (hnb : s0.b.length + x.length ≤ 1000000000000) (hnc : s0.c.length ≤ 1000000000000) :
  Calls Tryz.prog 21 #[.pointer (some ⟨K,0,none⟩),v] w fun e w' => e = .returned (.tuple #[]) ∧ (∃ s',BkA B K s' w' ∧ s'.b.map (·.v) = s0.b.map (·.v) ++ kvs ∧ s'.c.map (·.v) = s0.c.map (·.v) ++ [v] ∧ s'.l = s0.l ∧ s'.f = s0.f ∧ s'.o = s0.o) ∧ Fu K w w' ∧ Bx K w w' := by
 obtain ⟨inf,hi0,hz0,hz1,hz2⟩ := info_parts infoKC
 obtain ⟨A,c,rfl,-⟩ := Sr.own_sl hC.row
 obtain ⟨m,hm⟩ : ∃ m,x.length = m := ⟨_,rfl⟩
 rw [hm] at hC hac hnb hx ⊢
 have HM := Lib.hid hm
 have HC0 := Lib.hid hC
 have HL := Lib.hid hL
 have HAB := Lib.hid hab
 have HAC := Lib.hid hac
 have H0 := Lib.hid h0
 have hKw0 := h0.kw
 have hkb0 := h0.kb
 clear hm hC hL hab hac h0
 go_enter Tryz.func21,Tryz.ntmps21
 go_wp2
 go_loopw [4] (fun i wr => ∃ (q : Nat) (s : St),q ≤ m ∧ i = .int .i64 (q : Int) ∧ Hid (BkA B K s wr) ∧ Hid (s.b.map (·.v) = s0.b.map (·.v) ++ kvs.take q ∧ s.c = s0.c ∧ s.l = s0.l ∧ s.f = s0.f ∧ s.o = s0.o) ∧ Hid (Fu K w wr) ∧ Hid (Bx K w wr)) (fun i _ => m - (intOf i).toNat)
 case atStart => exact ⟨0,s0,Nat.zero_le _,rfl,H0,Lib.hid ⟨by simp,rfl,rfl,rfl,rfl⟩,Lib.hid (Fu.refl _ _),Lib.hid (Bx.refl _ _)⟩
 case round =>
  obtain ⟨q,s,hq,rfl,HB,HS,HF,HX⟩ := hrel
  have hCr := CRow.fu HC0.out HF.out hkb0
  have hkl : kvs.length = m := by rw [hCr.len,HM.out]
  by_cases hlt : q < m
  ·have i1 : (q : Int) < (m : Int) := by omega
   obtain ⟨b,o,rfl,hbw,hcell⟩ := hCr.shows.cells (by rw [HM.out];omega)
   obtain ⟨ch,hch⟩ : ∃ ch,x[q]? = some ch := ⟨_,List.getElem?_eq_getElem (by rw [HM.out];exact hlt)⟩
   obtain ⟨kv,hkv⟩ : ∃ kv,kvs[q]? = some kv := ⟨_,List.getElem?_eq_getElem (by rw [hkl];exact hlt)⟩
   have ck := hcell q ch kv hch hkv 3 kv rfl
   have hrow : RowB B kv ch.key wr := ⟨hCr.own q ch kv hch hkv,(HL.out ch (List.mem_of_getElem? hch)).key⟩
   have hbl : s.b.length = s0.b.length + q := by
    have h9 := congrArg List.length HS.out.1
    rw [List.length_map,List.length_append,List.length_map,List.length_take,hkl] at h9
    omega
   have hnx : s.b.map (·.v) ++ [kv] = s0.b.map (·.v) ++ kvs.take (q + 1) := by rw [HS.out.1,take_next hkv,List.append_assoc]
   have hcall := keep_B B K s kv ch.key wr HB.out hrow (by
    rw [hnx]
    have h9 := HAB.out
    rw [← List.take_append_drop (q + 1) kvs,← List.append_assoc] at h9
    exact apt_pre h9) (by omega)
   have HCALL := Lib.hid hcall
   have HNX := Lib.hid hnx
   obtain ⟨Ak,kk,hke,-⟩ := Sr.own_sl hrow.1
   obtain ⟨mk,hmk⟩ : ∃ k,ch.key.length = k := ⟨_,rfl⟩
   rw [hmk] at hke
   subst hke
   clear hcall hnx hrow hkv hch hcell hCr hmk hbl
   go_wp2_with fail
   refine HCALL.out.mono ?_
   rintro e w2 ⟨rfl,⟨u,hB2⟩,hF2,hX2⟩
   have HB2 := Lib.hid hB2
   have HF2 := Lib.hid (HF.out.trans hF2)
   have HX2 := Lib.hid (HX.out.trans hX2)
   have HS2 : Hid (({ s with b := s.b ++ [⟨.slice Ak mk kk,u,ch.key⟩] } : St).b.map (·.v) = s0.b.map (·.v) ++ kvs.take (q + 1) ∧ s.c = s0.c ∧ s.l = s0.l ∧ s.f = s0.f ∧ s.o = s0.o) := Lib.hid ⟨by rw [← HNX.out];simp,HS.out.2⟩
   clear hB2 hF2 hX2
   go_wp2
   go_roundw
   case rel => exact ⟨q + 1,_,by omega,by go_num,HB2,HS2,HF2,HX2⟩
   case measure => simp [intOf];omega
  ·obtain rfl : q = m := by omega
   have i1 : ¬ (q : Int) < (q : Int) := by omega
   have h := HB.out
   have hv : RowC B (.slice A q c) x wr := ⟨⟨kvs,hCr⟩,HL.out,by rw [HM.out];exact hx⟩
   have ha : Sr.Apt (s.c.map (·.v) ++ [.slice A q c]) := by rw [HS.out.2.1];exact HAC.out
   have hn : s.c.length ≤ 1000000000000 := by rw [HS.out.2.1];exact hnc
   have HKV : Hid (kvs.take q = kvs) := Lib.hid (List.take_of_length_le (by omega))
   clear hCr hkl hlt
   obtain ⟨a0,a1,hp⟩ := h.hc
   have ba0 := h.ba
   have hkb := h.kb
   have hbw := h.bw
   have hkw := h.kw
   have HB := Lib.hid h
   have HA := Lib.hid ha
   obtain ⟨vs,hvs⟩ : ∃ l,s.c.map (·.v) = l := ⟨_,rfl⟩
   obtain ⟨us,hus⟩ : ∃ l,s.c.map (·.u) = l := ⟨_,rfl⟩
   rw [hvs,hus] at hp
   have hvl : vs.length = s.c.length := by rw [← hvs,List.length_map]
   have hul : us.length = s.c.length := by rw [← hus,List.length_map]
   obtain ⟨n,hnn⟩ : ∃ n,s.c.length = n := ⟨_,rfl⟩
   rw [hnn] at hvl hul
   have hn' : n ≤ 1000000000000 := by rw [← hnn];exact hn
   have HVL := Lib.hid hvl
   have HUL := Lib.hid hul
   have HVS := Lib.hid hvs
   have HUS := Lib.hid hus
   have hb0 := one wr (.cells #[.slice A q c] 22)
   have hp0 := hp.on hb0 hkw
   have hv0 := hv.fu (Fu.of_below hb0 hkw) hkb
   have fk0 : Fk kC K wr _ := Fk.of_below hb0 hkw
   have o00 : (wr.alloc (.cells #[.slice A q c] 22)).ownsRow B 22 1 a0 n vs := by have h9 := hp0.o0;rwa [HVL.out] at h9
   have bw0 : B ≤ (wr.alloc (.cells #[.slice A q c] 22)).heap.size := Nat.le_trans hbw hb0.size
   have c2 : wr.cell? ⟨K,38,none⟩ = some a0 := hp.c0
   have c2a := keepc hb0 c2
   have kf0 : ∀ o,(wr.alloc (.cells #[.slice A q c] 22)).frozen? ⟨K,o,none⟩ = false := fun o => (World.frozen?_of_block (a := ⟨K,o,none⟩) (hb0.block K hkw)).trans (ba0.fz o)
   have hKa : K < (wr.alloc (.cells #[.slice A q c] 22)).heap.size := Nat.lt_of_lt_of_le hkw hb0.size
   clear hvl hul hvs hus hnn hp ba0 h ha
   go_wp2_with (at_builtin;go_loud (refine wpList_append_s rfl _ _ 51 rfl B 22 inf (.slice none 0 0) 1 24 Tryz.underlying51 hi0 hz0 hz1 hz2 rfl (by decide) a0 n vs rfl o00 ⟨wr.heap.size,0,none⟩ 1 [.slice A q c] rfl rfl (Sr.cells_at rfl _ _) ?c1 ?c2 ?c3 ?c4 ?_))
   case c1 => first | exact one_ofK rfl | rfl
   case c2 => first | omega | (unfold maxLen;omega)
   case c3 => omega
   case c4 => first | exact bw0 | omega
   intro v0' w1 ho0 ha0
   obtain ⟨g0,k0,rfl,-,-⟩ := ho0.form (by omega)
   obtain ⟨hp1,fk1⟩ := hp0.app0 hkb bw0 (by rw [HVL.out];exact ha0) (by rw [HVL.out];exact ho0)
   have hkK := ha0.grown.block K hKa (kb_ne o00 hkb)
   have k2 : w1.cell? ⟨K,38,none⟩ = some a0 := (World.cell?_of_block (a := ⟨K,38,none⟩) hkK).trans c2a
   have kf : ∀ o,w1.frozen? ⟨K,o,none⟩ = false := fun o => (World.frozen?_of_block (a := ⟨K,o,none⟩) hkK).trans (kf0 o)
   have fk2 := fk0.trans fk1
   clear hp0 ho0 ha0 hkK o00 c2a kf0 hKa bw0 fk0 fk1 hb0 c2
   go_upto_region 5 with fail
   have fz1 := fk2.fz (HB.out.ba.fz)
   have hv1 := hv.fu (fk2.fu frU_C) hkb
   have hs1 := fk2.size
   clear k2 kf hv0
   change Code.wp _ _ _ _ (w1.setCell ⟨K,38,none⟩ (.slice (some ⟨g0,0,none⟩) (n + 1) k0))
   have hp1' : Hp kC B K (.slice (some ⟨g0,0,none⟩) (n + 1) k0) a1 (vs ++ [.slice A q c]) us (w1.setCell ⟨K,38,none⟩ (.slice (some ⟨g0,0,none⟩) (n + 1) k0)) := hp1
   have fk2' : Fk kC K wr (w1.setCell ⟨K,38,none⟩ (.slice (some ⟨g0,0,none⟩) (n + 1) k0)) := fk2
   have hv1' : RowC B (.slice A q c) x (w1.setCell ⟨K,38,none⟩ (.slice (some ⟨g0,0,none⟩) (n + 1) k0)) := hv1
   have fz1' : ∀ o,(w1.setCell ⟨K,38,none⟩ (.slice (some ⟨g0,0,none⟩) (n + 1) k0)).frozen? ⟨K,o,none⟩ = false := fz1
   have hs1' : wr.heap.size ≤ (w1.setCell ⟨K,38,none⟩ (.slice (some ⟨g0,0,none⟩) (n + 1) k0)).heap.size := hs1
   clear hp1 fk2 hv1 fz1 hs1
   generalize w1.setCell ⟨K,38,none⟩ (.slice (some ⟨g0,0,none⟩) (n + 1) k0) = W1 at hp1' fk2' hv1' fz1' hs1' ⊢
   have hkW : K < W1.heap.size := by omega
   have hbd : Below W1.heap.size W1 W1.drew := (Below.refl _ _).drew
   have hvD := hv1'.fu (Fu.of_below hbd hkW) hkb
   obtain ⟨kvsD,hvDr⟩ := hvD.1
   have hsD := CRow.shows hvDr
   have hpD := hp1'.on hbd hkW
   have c3d : W1.drew.cell? ⟨K,39,none⟩ = some a1 := hpD.c1
   have hm' : q ≤ 2000000 := by have h9 := hvD.2.2;rw [HM.out] at h9;exact h9
   have hpre : ∀ (w3 : World),Below W1.drew.heap.size W1.drew w3 → ∀ (Au : Option Addr) (cu : Nat),w3.cell? ⟨K,39,none⟩ = some a1 ∧ (w3.alloc (.cells #[.slice Au q cu] 22)).cell? ⟨K,39,none⟩ = some a1 ∧ (w3.alloc (.cells #[.slice Au q cu] 22)).ownsRow B 22 1 a1 n us ∧ B ≤ (w3.alloc (.cells #[.slice Au q cu] 22)).heap.size := fun w3 hb3 Au cu => by
    have h9 := keep_pre hpD hb3 hkW (.cells #[.slice Au q cu] 22)
    rw [HUL.out] at h9
    exact ⟨h9.1,h9.2.1,h9.2.2.1,Nat.le_trans (show B ≤ W1.drew.heap.size from by have : W1.drew.heap.size = W1.heap.size := rfl;omega) h9.2.2.2⟩
   have hpost : ∀ (w3 : World),Below W1.drew.heap.size W1.drew w3 → ∀ (Au : Option Addr) (cu : Nat) (v1' : Value) (w4 : World),ApS 1 a1 n (w3.alloc (.cells #[.slice Au q cu] 22)) v1' w4 → w4.cell? ⟨K,39,none⟩ = some a1 ∧ ∀ o,w4.frozen? ⟨K,o,none⟩ = false := fun w3 hb3 Au cu v1' w4 ha => by
    refine keep_post hpD hb3 hkW hkb fz1' (.cells #[.slice Au q cu] 22) (v' := v1') ?_
    rw [HUL.out]
    exact ha
   go_region_law (first
    | (go_simp;go_at_call 16;refine (changes_copy HM kvsD A c W1.drew hm' hsD hvD.2.1).mono ?_;rintro e w3 ⟨⟨Au,cu,kvsU,rfl,hu⟩,hb3⟩;obtain ⟨c3c,c3e,o14,bw4⟩ := hpre w3 hb3 Au cu)
    | (go_loud (refine step_append_s rfl _ _ 51 rfl B 22 inf (.slice none 0 0) 1 24 Tryz.underlying51 hi0 hz0 hz1 hz2 rfl (by decide) a1 n us rfl o14 ⟨w3.heap.size,0,none⟩ 1 [.slice Au q cu] rfl rfl (Sr.cells_at rfl _ _) (one_ofK rfl) (by unfold maxLen;omega) (by omega) bw4 ?_);intro v1' w4 ho1 ha1;obtain ⟨g1,k1,rfl,-,-⟩ := ho1.form (by omega);obtain ⟨k43,fz4⟩ := hpost w3 hb3 Au cu _ w4 ha1))
   all_goals
    have hkd : K < W1.drew.heap.size := hkW
    have hp3 := hpD.on hb3 hkd
    have hk3 : K < w3.heap.size := Nat.lt_of_lt_of_le hkd hb3.size
    have hb4 := one w3 (.cells #[.slice Au q cu] 22)
    have hp4 := hp3.on hb4 hk3
    obtain ⟨hpF,fkF⟩ := hp4.app1 hkb bw4 (by rw [HUL.out];exact ha1) (by rw [HUL.out];exact ho1)
    have fk3 : Fk kC K W1.drew w3 := Fk.of_below hb3 hkd
    have fk4 : Fk kC K w3 _ := Fk.of_below hb4 hk3
    have fk34 := fk4.trans fkF
    have fkA := (fk2'.trans (Fk.of_below hbd hkW)).trans (fk3.trans fk34)
    have hu3 : RowC B (.slice Au q cu) x w3 := ⟨⟨kvsU,hu.low (by have : W1.drew.heap.size = W1.heap.size := rfl;omega)⟩,hvD.2⟩
    have huF := hu3.fu (fk34.fu frU_C) hkb
    have hvF := hv.fu (fkA.fu frU_C) hkb
    have hpG : Hp kC B K (.slice (some ⟨g0,0,none⟩) (n + 1) k0) (.slice (some ⟨g1,0,none⟩) (n + 1) k1) (s.c.map (·.v) ++ [.slice A q c]) (s.c.map (·.u) ++ [.slice Au q cu]) (w4.setCell ⟨K,kC.o + 1,none⟩ (.slice (some ⟨g1,0,none⟩) (n + 1) k1)) := by rw [HVS.out,HUS.out];exact hpF
    have hF := HB.out.addC fkA ⟨_,_,hpG⟩ hvF huF HA.out
    have fuA := fkA.fu frU_C
    have bxA := fkA.bx (by decide)
    clear hpF fkF fk3 fk4 fk34 fkA hu3 huF hvF hpG ha1 ho1 o14 hp4 hp3 c3c c3e hu k43
    go_wp2
    go_end0
    exact ⟨rfl,⟨_,hF,by rw [← HKV.out];exact HS.out.1,by simp [HS.out.2.1],HS.out.2.2.1,HS.out.2.2.2.1,HS.out.2.2.2.2⟩,HF.out.trans fuA,HX.out.trans bxA⟩
end Go.Proofs.YtpkmekdpmkfcdaaGreatDoor.Kb
namespace Go.Proofs.YtpkmekdpmkfcdaaGreatDoor.Kb
set_option linter.unusedVariables false
set_option linter.unusedSimpArgs false
open Go.RowKit Go.Proofs.YtpkmekdpmkfcdaaGreatDoor.Wd Go.Proofs.YtpkmekdpmkfcdaaGreatDoor.Px Go.Proofs.YtpkmekdpmkfcdaaGreatDoor.By Go.Proofs.YtpkmekdpmkfcdaaGreatDoor.Pf Go.Proofs.YtpkmekdpmkfcdaaGreatDoor.Sc
open Go.Proofs.YtpkmekdpmkfcdaaGreatDoor.Sr (own_same own_kind own_low CRow ORow OpO Opv Und fltC Lim LimO chC opC nl put14)
open Go.Proofs.YtpkmekdpmkfcdaaGreatDoor.Sr (bytes_copy bools_copy faults_copy changes_copy op_copy infoOp Blk)
theorem app_get {α : Type} {a b : List α} {i : Nat} {v : α} (h : (a ++ b)[i]? = some v) : (a[i]? = some v ∧ i < a.length) ∨ (a.length ≤ i ∧ b[i - a.length]? = some v) := by
 by_cases hi : i < a.length
 ·rw [List.getElem?_append_left hi] at h
  exact .inl ⟨h,hi⟩
 ·rw [List.getElem?_append_right (by omega)] at h
  exact .inr ⟨by omega,h⟩
theorem apt_app {a b : List Value} (ha : Sr.Apt a) {H : Nat} (ht : Tp a H) (hb : Sr.Apt b) (hv : ∀ v ∈ b,∀ g,v.ownBlock = some g → H ≤ g) : Sr.Apt (a ++ b) := fun i j v u g hi hj hg hg' => by
 rcases app_get hi with ⟨h1,h2⟩ | ⟨h1,h2⟩ <;> rcases app_get hj with ⟨h3,h4⟩ | ⟨h3,h4⟩
 ·exact ha i j v u g h1 h3 hg hg'
 ·have := ht v (List.mem_of_getElem? h1) g hg
  have := hv u (List.mem_of_getElem? h4) g hg'
  omega
 ·have := ht u (List.mem_of_getElem? h3) g hg'
  have := hv v (List.mem_of_getElem? h2) g hg
  omega
 ·have := hb _ _ v u g h2 h4 hg hg'
  omega
theorem apt_cons {v : Value} {b : List Value} (hb : Sr.Apt b) (hv : ∀ (i : Nat) u g,b[i]? = some u → u.ownBlock = some g → v.ownBlock ≠ some g) : Sr.Apt (v :: b) := fun i j a c g hi hj hg hg' => by
 match i,j,hi,hj with
 | 0,0,_,_ => rfl
 | 0,j + 1,hi,hj =>
  simp at hi hj
  subst hi
  exact absurd hg (hv j c g hj hg')
 | i + 1,0,hi,hj =>
  simp at hi hj
  subst hj
  exact absurd hg' (hv i a g hi hg)
 | i + 1,j + 1,hi,hj =>
  simp at hi hj
  have := hb i j a c g hi hj hg hg'
  omega
/-- all kept lists' blocks lie below -/
structure TpS (s : St) (H : Nat) : Prop where
 b : Tp (s.b.map (·.v)) H
 l : Tp (s.l.map (·.v)) H
 c : Tp (s.c.map (·.v)) H
 f : Tp (s.f.map (·.v)) H
 o : Tp (s.o.map (·.v)) H
/-- how many lists of each kind are kept -/
structure Big (s : St) (N : Nat) : Prop where
 b : s.b.length ≤ N
 l : s.l.length ≤ N
 c : s.c.length ≤ N
 f : s.f.length ≤ N
 o : s.o.length ≤ N
theorem TpS.mono {s : St} {H H' : Nat} (h : TpS s H) (hH : H ≤ H') : TpS s H' := ⟨h.b.mono hH,h.l.mono hH,h.c.mono hH,h.f.mono hH,h.o.mono hH⟩
theorem Big.mono {s : St} {N N' : Nat} (h : Big s N) (hN : N ≤ N') : Big s N' := ⟨Nat.le_trans h.b hN,Nat.le_trans h.l hN,Nat.le_trans h.c hN,Nat.le_trans h.f hN,Nat.le_trans h.o hN⟩
theorem Tp.app {a b : List Value} {H : Nat} (ha : Tp a H) (hb : Tp b H) : Tp (a ++ b) H := fun v hv => by
 rcases List.mem_append.1 hv with h | h
 ·exact ha v h
 ·exact hb v h
theorem Tp.one {v : Value} {H : Nat} (h : ∀ g,v.ownBlock = some g → g < H) : Tp [v] H := fun u hu => by rw [List.mem_singleton.1 hu];exact h
theorem ORow_low {B B' : Nat} {v : Value} {l : List Opp} {vs : List Opv} {W : World} (h : ORow B v l vs W) (hb : B' ≤ B) : ORow B' v l vs W :=
 ⟨h.len,own_low h.row hb,fun i o x ho hx => by
  obtain ⟨h1,h2,h3⟩ := h.own i o x ho hx
  exact ⟨h1,Nat.le_trans hb h2,h3⟩,h.low,h.sep⟩
/-- a row of steps, that is none of the book's, is appended to -/
theorem BkA.grown {B K Hn : Nat} {s : St} {W W' : World} {row : Option Nat} (h : BkA B K s W) (hg : W.grownBy W' row) (hrow : ∀ g,row = some g → (∃ c,W.heap[g]? = some (.cells c 108 (0,0))) ∧ Hn ≤ g) (hKH : K < Hn)
  (hso : ∀ i ∈ s.o,(∀ g,i.v.ownBlock = some g → g < Hn) ∧ (∀ g,i.u.ownBlock = some g → g < Hn)) : BkA B K s W' := by
 have mt : ∀ (k : Nat) (c : Array Value) (e : TypeId),e ≠ 108 → W.heap[k]? = some (.cells c e (0,0)) → W'.heap[k]? = W.heap[k]? := fun k c e he hk => hg.block k (lt_of_cells hk) fun e2 => by
  obtain ⟨⟨c2,hc2⟩,-⟩ := hrow k e2.symm
  exact blk_ne hk hc2 he rfl
 have ml : ∀ k,k < W.heap.size → k < Hn → W'.heap[k]? = W.heap[k]? := fun k hk hn => hg.block k hk fun e2 => by
  have := (hrow k e2.symm).2
  omega
 have hK := ml K h.kw hKH
 have hp : ∀ {κ : Kin} {v0 v1 : Value} {vs us : List Value},κ.r ≠ 108 → Hp κ B K v0 v1 vs us W → Hp κ B K v0 v1 vs us W' := fun hr hh => hh.move (fun o _ => World.cell?_of_block (a := ⟨K,o,none⟩) hK) fun g c _ hc => mt g c _ hr hc
 have ow : ∀ {b s n : Nat} {e : TypeId} {v : Value} {xs : List Value},e ≠ 108 → W.ownsRow b e s v n xs → W'.ownsRow b e s v n xs := fun he ho => own_same ho fun k hk => by
  obtain ⟨c,hc⟩ := own_kind ho hk
  exact mt k c _ he hc
 have ou : ∀ (g : Nat) (c : Array Value) (e : TypeId),Und e → W.heap[g]? = some (.cells c e (0,0)) → W'.heap[g]? = W.heap[g]? := fun g c e he hc => mt g c e (by rcases he with rfl | rfl | rfl | rfl <;> decide) hc
 have oo : ∀ {v : Value} {x : List Opp},(∀ g,v.ownBlock = some g → g < Hn) → RowO B v x W → RowO B v x W' := fun hv hh => by
  obtain ⟨⟨vs,h1⟩,h2⟩ := hh
  exact ⟨⟨vs,h1.len,own_same h1.row fun k hk => ml k (h1.row.lt k hk).2 (hv k hk),fun i o x ho hx => by
   obtain ⟨q1,q2,q3⟩ := h1.own i o x ho hx
   exact ⟨q1.mv ou,q2,Nat.le_trans q3 hg.size⟩,h1.low,h1.sep⟩,h2⟩
 have oc : ∀ {v : Value} {x : List Chg},RowC B v x W → RowC B v x W' := fun hh => by
  obtain ⟨⟨kvs,h1⟩,h2⟩ := hh
  exact ⟨⟨kvs,h1.mv ou⟩,h2⟩
 obtain ⟨b0,b1,hb2⟩ := h.hb
 obtain ⟨c0,c1,hc⟩ := h.hl
 obtain ⟨d0,d1,hd⟩ := h.hc
 obtain ⟨e0,e1,he⟩ := h.hf
 obtain ⟨f0,f1,hf⟩ := h.ho
 exact ⟨h.kb,Nat.le_trans h.bw hg.size,h.ba.on hK,⟨_,_,hp (by decide) hb2⟩,⟨_,_,hp (by decide) hc⟩,⟨_,_,hp (by decide) hd⟩,⟨_,_,hp (by decide) he⟩,⟨_,_,hp (by decide) hf⟩,
  fun i hi => ⟨⟨ow (by decide) (h.rb i hi).1.1,(h.rb i hi).1.2⟩,⟨ow (by decide) (h.rb i hi).2.1,(h.rb i hi).2.2⟩⟩,fun i hi => ⟨⟨ow (by decide) (h.rl i hi).1.1,(h.rl i hi).1.2⟩,⟨ow (by decide) (h.rl i hi).2.1,(h.rl i hi).2.2⟩⟩,fun i hi => ⟨oc (h.rc i hi).1,oc (h.rc i hi).2⟩,fun i hi => ⟨⟨ow (by decide) (h.rf i hi).1.1,(h.rf i hi).1.2⟩,⟨ow (by decide) (h.rf i hi).2.1,(h.rf i hi).2.2⟩⟩,fun i hi => ⟨oo (hso i hi).1 (h.ro i hi).1,oo (hso i hi).2 (h.ro i hi).2⟩,h.ab,h.al,h.ac,h.af,h.ao⟩
/-- what was before is left alone by an append to a younger row -/
theorem Fu.grown {K : Nat} {w W W' : World} {row : Option Nat} (h : Fu K w W) (hg : W.grownBy W' row) (hKw : K < w.heap.size) (hrow : ∀ g,row = some g → w.heap.size ≤ g) : Fu K w W' :=
 ⟨Nat.le_trans h.size hg.size,fun g c e he hgK hc => (hg.block g (Nat.lt_of_lt_of_le (lt_of_cells hc) h.size) fun e2 => by have := hrow g e2.symm;have := lt_of_cells hc;omega).trans (h.blk g c e he hgK hc),fun b w0 hb h0 => (h.old b w0 hb h0).grown hg (by have := h.size;omega) fun j hj => by have := hrow j hj;omega⟩
theorem infoKO : (Tryz.prog.info? 58).map (fun i => (i.zero,i.size,i.bytes)) = some (some (.slice none 0 0),1,24) := by kernel_rfl
set_option maxRecDepth 100000 in
set_option maxHeartbeats 16000000 in
theorem keep_O (B K b0 N0 H T : Nat) (s0 : St) (v : Value) (x : List Opp) (vs : List Opv) (w : World) (h0 : BkA B K s0 w) (hO : ORow b0 v x vs w) (hBb : B ≤ b0) (hL : ∀ o ∈ x,LimO o) (hx : x.length ≤ 400) (hT0 : TpS s0 H) (hHb : H ≤ b0) (hbT : b0 ≤ T) (htop : ∀ y ∈ vs,y.top ≤ T) (hvT : ∀ g,v.ownBlock = some g → g < T) (hN : Big s0 N0) (hN9 : N0 ≤ 500000000000) :
  Calls Tryz.prog 20 #[.pointer (some ⟨K,0,none⟩),v] w fun e w' => e = .returned (.tuple #[]) ∧ (∃ s',BkA B K s' w' ∧ TpS s' T ∧ Big s' (N0 + 1000000000)) ∧ Fu K w w' ∧ Bx K w w' := by
 obtain ⟨inf,hi0,hz0,hz1,hz2⟩ := info_parts infoKO
 obtain ⟨i0,ei0,ez0,ez1,ez2⟩ := info_parts infoOp
 obtain ⟨A,c,rfl,-⟩ := Sr.own_sl hO.row
 obtain ⟨m,hm⟩ : ∃ m,x.length = m := ⟨_,rfl⟩
 rw [hm] at hO hvT hx ⊢
 have HM := Lib.hid hm
 have HO := Lib.hid hO
 have HL := Lib.hid hL
 have H0 := Lib.hid h0
 have HN := Lib.hid hN
 have HTOP := Lib.hid htop
 have HVT := Lib.hid hvT
 have HT0 := Lib.hid hT0
 have hKw0 := h0.kw
 have hkb0 := h0.kb
 have hbw0 := h0.bw
 clear hm hO hL h0 hN htop hvT hT0
 go_enter Tryz.func20,Tryz.ntmps20
 go_wp2
 go_loopw [4,5] (fun u4 i wr => ∃ (q : Nat) (s : St) (us : List Opv) (Hq : Nat) (A2 : Option Addr) (k2 : Nat),q ≤ m ∧ u4 = .slice A2 q k2 ∧ i = .int .i64 (q : Int) ∧ Hid (BkA B K s wr) ∧ Hid (ORow w.heap.size (.slice A2 q k2) (x.take q) us wr) ∧ Hid (TpS s Hq ∧ (∀ (j : Nat) (y : Opv),q ≤ j → vs[j]? = some y → Hq ≤ y.base) ∧ Hq ≤ T) ∧ Hid (Fu K w wr ∧ Bx K w wr) ∧ Hid (Big s (N0 + q * 2000001) ∧ s.o = s0.o)) (fun _ i _ => m - (intOf i).toNat)
 case atStart =>
  have hst : ∀ (j : Nat) (y : Opv),0 ≤ j → vs[j]? = some y → b0 ≤ y.base := fun j y _ hy => by
   obtain ⟨d,hd⟩ : ∃ d,x[j]? = some d := ⟨_,List.getElem?_eq_getElem (by rw [← HO.out.len];exact (List.getElem?_eq_some_iff.1 hy).1)⟩
   exact (HO.out.own j d y hd hy).2.1
  have hb1 := one w (.cells #[] 108)
  exact ⟨0,s0,[],b0,some ⟨w.heap.size,0,none⟩,0,Nat.zero_le _,rfl,rfl,Lib.hid (H0.out.on hb1),Lib.hid ⟨rfl,World.ownsRow_lit w #[] 0 (Nat.le_refl _) (by decide) rfl,fun i o y h => by simp at h,fun y h => by simp at h,fun i j y z _ h => by simp at h⟩,Lib.hid ⟨HT0.out.mono hHb,hst,hbT⟩,Lib.hid ⟨Fu.of_below hb1 hKw0,Bx.of_below hb1⟩,Lib.hid ⟨HN.out.mono (by omega),rfl⟩⟩
 case round =>
  obtain ⟨q,s,us,Hq,A2,k2,hq,rfl,rfl,HB,HW,HT,HFX,HLN⟩ := hrel
  have HF := Lib.hid HFX.out.1
  have HX := Lib.hid HFX.out.2
  clear HFX
  by_cases hlt : q < m
  ·have i1 : (q : Int) < (m : Int) := by omega
   obtain ⟨p,hp⟩ : ∃ p,x[q]? = some p := ⟨_,List.getElem?_eq_getElem (by rw [HM.out];exact hlt)⟩
   obtain ⟨⟨dv,cv,fv,bv,kvs,base,top⟩,hy⟩ : ∃ y,vs[q]? = some y := ⟨_,List.getElem?_eq_getElem (by rw [HO.out.len,HM.out];exact hlt)⟩
   obtain ⟨b,o,rfl,hbw,hcell⟩ := HO.out.shows.1.cells (by rw [HM.out];omega)
   have hcell := hcell q p _ hp hy
   obtain ⟨hOp,hbb,htw⟩ := HO.out.own q p _ hp hy
   have hlow := HO.out.low _ (List.mem_of_getElem? hy)
   simp only at hcell hOp hbb htw hlow
   have hLp := HL.out p (List.mem_of_getElem? hp)
   have htT : top ≤ T := HTOP.out _ (List.mem_of_getElem? hy)
   have hHq : Hq ≤ base := HT.out.2.1 q _ (Nat.le_refl _) hy
   have hnext : ∀ (j : Nat) (y : Opv),q + 1 ≤ j → vs[j]? = some y → max Hq top ≤ y.base := fun j y hj hyj => by
    have h1 := HT.out.2.1 j y (by omega) hyj
    have h2 := HO.out.sep q j _ y (by omega) hy hyj
    simp only at h2
    omega
   obtain ⟨cb,hcb⟩ := own_kind HO.out.row (k := b) rfl
   have hbK : b ≠ K := by have := (HO.out.row.lt b rfl).1;omega
   have HCW : Hid (∀ W : World,Fu K w W → ∀ (j : Nat) u,(opC p dv cv fv bv)[j]? = some u → W.cell? ⟨b,o + q * 14 + j,none⟩ = some u) := Lib.hid fun W hFW j u hu => (World.cell?_of_block (a := ⟨b,o + q * 14 + j,none⟩) (hFW.blk b cb _ (.inr rfl) hbK hcb)).trans (hcell j u hu)
   have HOP : Hid (∀ W : World,Fu K w W → OpO base p dv cv fv bv kvs W) := Lib.hid fun W hFW => OpO.fu hOp hFW (by omega)
   have HLOW := Lib.hid hlow
   have HLP := Lib.hid hLp
   have HNEXT := Lib.hid hnext
   have HP : Hid (x.take q ++ [p] = x.take (q + 1)) := Lib.hid (take_next hp).symm
   have hKB : K < base := by omega
   have hBB : B ≤ base := by omega
   obtain ⟨⟨A1,d1,g1,-,-⟩,⟨A3,d2,g2,-,-⟩,⟨A4,d3,g3,-,-⟩,⟨A5,d4,g4,-,-⟩⟩ := hOp.shows
   subst g1 g2 g3 g4
   clear hcell hOp hbb htw hlow hLp hnext hcb cb hbw hy hp
   -- the step's bytes
   have e6 : wr.cell? ⟨b,o + q * 14 + 6,none⟩ = some (.slice A1 p.data.length d1) := HCW.out wr HF.out 6 _ rfl
   have hq1 := HOP.out wr HF.out
   have HC1 := Lib.hid (keep_B B K s (.slice A1 p.data.length d1) p.data wr HB.out ⟨own_low hq1.data hBB,HLP.out.data⟩ (apt_snoc HB.out.ab HT.out.1.b fun g hg => by have := (hq1.data.lt g hg).1;omega) (by have := HLN.out.1.b;omega))
   clear hq1
   go_wp2_with fail
   refine HC1.out.mono ?_
   rintro e w1 ⟨rfl,⟨u1,hB1⟩,hF1,hX1⟩
   have HF1 := Lib.hid (HF.out.trans hF1)
   have HX1 := Lib.hid (HX.out.trans hX1)
   have HB1 := Lib.hid hB1
   have HW1 := Lib.hid (ORow.fu HW.out hF1 hKw0)
   clear e6 hB1 hF1 HC1
   -- its changes
   have e11 : w1.cell? ⟨b,o + q * 14 + 11,none⟩ = some (.slice A3 p.chs.length d2) := HCW.out w1 HF1.out 11 _ rfl
   have hq2 := HOP.out w1 HF1.out
   have hap2 : Sr.Apt ((s.b ++ [⟨.slice A1 p.data.length d1,u1,p.data⟩] : List (It (List UInt8))).map (fun i => i.v) ++ kvs) := by
    rw [List.map_append,List.append_assoc]
    refine apt_app HB.out.ab HT.out.1.b (apt_cons hq2.chs.ap hq2.ap) fun y hy g hg => ?_
    rcases List.mem_cons.1 hy with rfl | hy
    ·have := (hq2.data.lt g hg).1;omega
    ·obtain ⟨i,hi⟩ := List.mem_iff_getElem?.1 hy
     obtain ⟨d,hd⟩ : ∃ d,p.chs[i]? = some d := ⟨_,List.getElem?_eq_getElem (by rw [← hq2.chs.len];exact (List.getElem?_eq_some_iff.1 hi).1)⟩
     have := ((hq2.chs.own i d y hd hi).lt g hg).1;omega
   have HC2 := Lib.hid (keep_C B K _ (.slice A3 p.chs.length d2) p.chs kvs w1 HB1.out (hq2.chs.low hBB) HLP.out.lim HLP.out.chs hap2 (apt_snoc HB.out.ac HT.out.1.c fun g hg => by have := (hq2.chs.row.lt g hg).1;omega) (by have h1 := HLN.out.1.b;have h2 := HLP.out.chs;simp only [List.length_append,List.length_singleton];omega) (by have := HLN.out.1.c;show s.c.length ≤ _;omega))
   clear hq2 hap2
   go_wp2_with fail
   refine HC2.out.mono ?_
   rintro e w2 ⟨rfl,⟨s2,hB2,sb,sc,sl,sf,so⟩,hF2,hX2⟩
   have HS2 := Lib.hid (And.intro sb (And.intro sc (And.intro sl (And.intro sf so))))
   have HF2 := Lib.hid (HF1.out.trans hF2)
   have HX2 := Lib.hid (HX1.out.trans hX2)
   have HB2 := Lib.hid hB2
   have HW2 := Lib.hid (ORow.fu HW1.out hF2 hKw0)
   clear e11 hB2 hF2 HC2 sb sc sl sf so HW1
   -- its faults
   have e12 : w2.cell? ⟨b,o + q * 14 + 12,none⟩ = some (.slice A4 p.fls.length d3) := HCW.out w2 HF2.out 12 _ rfl
   have hq3 := HOP.out w2 HF2.out
   have hsf : s2.f = s.f := HS2.out.2.2.2.1
   have hsl : s2.l = s.l := HS2.out.2.2.1
   have HC3 := Lib.hid (keep_F B K s2 (.slice A4 p.fls.length d3) p.fls w2 HB2.out ⟨own_low hq3.fls hBB,HLP.out.fls⟩ (by rw [hsf];exact apt_snoc HB.out.af HT.out.1.f fun g hg => by have := (hq3.fls.lt g hg).1;omega) (by rw [hsf];have := HLN.out.1.f;omega))
   clear hq3
   go_wp2_with fail
   refine HC3.out.mono ?_
   rintro e w3 ⟨rfl,⟨u3,hB3⟩,hF3,hX3⟩
   have HF3 := Lib.hid (HF2.out.trans hF3)
   have HX3 := Lib.hid (HX2.out.trans hX3)
   have HB3 := Lib.hid hB3
   have HW3 := Lib.hid (ORow.fu HW2.out hF3 hKw0)
   clear e12 hB3 hF3 HC3 HW2
   -- its bits
   have e13 : w3.cell? ⟨b,o + q * 14 + 13,none⟩ = some (.slice A5 p.keep.length d4) := HCW.out w3 HF3.out 13 _ rfl
   have hq4 := HOP.out w3 HF3.out
   have HC4 := Lib.hid (keep_L B K _ (.slice A5 p.keep.length d4) p.keep w3 HB3.out ⟨own_low hq4.keep hBB,HLP.out.keep⟩ (by show Sr.Apt (s2.l.map (·.v) ++ _);rw [hsl];exact apt_snoc HB.out.al HT.out.1.l fun g hg => by have := (hq4.keep.lt g hg).1;omega) (by show s2.l.length ≤ _;rw [hsl];have := HLN.out.1.l;omega))
   clear hq4
   go_wp2_with fail
   refine HC4.out.mono ?_
   rintro e w4 ⟨rfl,⟨u4,hB4⟩,hF4,hX4⟩
   have HF4 := Lib.hid (HF3.out.trans hF4)
   have HX4 := Lib.hid (HX3.out.trans hX4)
   have HB4 := Lib.hid hB4
   have HW4 := Lib.hid (ORow.fu HW3.out hF4 hKw0)
   clear e13 hB4 hF4 HC4 HW3
   -- what is known of the book now
   have HT4 : Hid (TpS { b := s2.b,l := s2.l ++ [⟨.slice A5 p.keep.length d4,u4,p.keep⟩],c := s2.c,f := s2.f ++ [⟨.slice A4 p.fls.length d3,u3,p.fls⟩],o := s2.o } (max Hq top)) := Lib.hid (by
    have hq5 := HOP.out w4 HF4.out
    have h1 := HT.out.1.mono (Nat.le_max_left Hq top)
    have lt_ : ∀ {g},(⟨.slice A1 p.data.length d1,.slice A3 p.chs.length d2,.slice A4 p.fls.length d3,.slice A5 p.keep.length d4,kvs,base,top⟩ : Opv).blk g → g < max Hq top := fun {g} hg => by have := HLOW.out g hg;omega
    refine ⟨?_,?_,?_,?_,?_⟩
    ·show Tp (s2.b.map (·.v)) _
     rw [HS2.out.1,List.map_append]
     exact (h1.b.app (Tp.one fun g hg => lt_ (.inl hg))).app fun y hy g hg => lt_ (.inr (.inr (.inr (.inr ⟨y,hy,hg⟩))))
    ·show Tp ((s2.l ++ [_] : List (It (List Bool))).map (fun i => i.v)) _
     rw [List.map_append,HS2.out.2.2.1]
     exact h1.l.app (Tp.one fun g hg => lt_ (.inr (.inr (.inr (.inl hg)))))
    ·show Tp (s2.c.map (·.v)) _
     rw [HS2.out.2.1]
     exact h1.c.app (Tp.one fun g hg => lt_ (.inr (.inl hg)))
    ·show Tp ((s2.f ++ [_] : List (It (List (Int × Int)))).map (fun i => i.v)) _
     rw [List.map_append,HS2.out.2.2.2.1]
     exact h1.f.app (Tp.one fun g hg => lt_ (.inr (.inr (.inl hg))))
    ·show Tp (s2.o.map (·.v)) _
     rw [HS2.out.2.2.2.2]
     exact h1.o)
   have HLN4 : Hid (Big { b := s2.b,l := s2.l ++ [⟨.slice A5 p.keep.length d4,u4,p.keep⟩],c := s2.c,f := s2.f ++ [⟨.slice A4 p.fls.length d3,u3,p.fls⟩],o := s2.o } (N0 + (q + 1) * 2000001) ∧ s2.o = s0.o) := Lib.hid (by
    have hq5 := HOP.out w4 HF4.out
    have hkl : kvs.length ≤ 2000000 := by rw [hq5.chs.len];exact HLP.out.chs
    obtain ⟨n1,n2,n3,n4,n5⟩ := HLN.out.1
    have l1 := congrArg List.length HS2.out.1
    have l2 := congrArg List.length HS2.out.2.1
    simp only [List.length_map,List.length_append,List.length_singleton] at l1 l2
    refine ⟨⟨?_,?_,?_,?_,?_⟩,HS2.out.2.2.2.2.trans HLN.out.2⟩
    ·show s2.b.length ≤ _;omega
    ·show (s2.l ++ [_]).length ≤ _;rw [List.length_append,hsl];simp only [List.length_singleton];omega
    ·show s2.c.length ≤ _;omega
    ·show (s2.f ++ [_]).length ≤ _;rw [List.length_append,hsf];simp only [List.length_singleton];omega
    ·show s2.o.length ≤ _;rw [show s2.o = s.o from HS2.out.2.2.2.2];exact Nat.le_trans n5 (Nat.add_le_add_left (Nat.mul_le_mul_right _ (Nat.le_succ q)) _))
   -- its copy
   have e0 : w4.cell? ⟨b,o + q * 14 + 0,none⟩ = some (.int .i64 p.kind) := HCW.out w4 HF4.out 0 _ rfl
   rw [Nat.add_zero] at e0
   have e1 : w4.cell? ⟨b,o + q * 14 + 1,none⟩ = some (.int .i64 p.a) := HCW.out w4 HF4.out 1 _ rfl
   have e2 : w4.cell? ⟨b,o + q * 14 + 2,none⟩ = some (.int .i64 p.k) := HCW.out w4 HF4.out 2 _ rfl
   have e3 : w4.cell? ⟨b,o + q * 14 + 3,none⟩ = some (.int .i64 p.t) := HCW.out w4 HF4.out 3 _ rfl
   have e4 : w4.cell? ⟨b,o + q * 14 + 4,none⟩ = some (.int .i64 p.x) := HCW.out w4 HF4.out 4 _ rfl
   have e5 : w4.cell? ⟨b,o + q * 14 + 5,none⟩ = some (.int .i64 p.link) := HCW.out w4 HF4.out 5 _ rfl
   have e6 : w4.cell? ⟨b,o + q * 14 + 6,none⟩ = some (.slice A1 p.data.length d1) := HCW.out w4 HF4.out 6 _ rfl
   have e7 : w4.cell? ⟨b,o + q * 14 + 7,none⟩ = some (.int .i64 p.sec) := HCW.out w4 HF4.out 7 _ rfl
   have e8 : w4.cell? ⟨b,o + q * 14 + 8,none⟩ = some (.int .i64 p.nano) := HCW.out w4 HF4.out 8 _ rfl
   have e9 : w4.cell? ⟨b,o + q * 14 + 9,none⟩ = some (.int .i64 p.blk) := HCW.out w4 HF4.out 9 _ rfl
   have e10 : w4.cell? ⟨b,o + q * 14 + 10,none⟩ = some (.int .i64 p.wid) := HCW.out w4 HF4.out 10 _ rfl
   have e11 : w4.cell? ⟨b,o + q * 14 + 11,none⟩ = some (.slice A3 p.chs.length d2) := HCW.out w4 HF4.out 11 _ rfl
   have e12 : w4.cell? ⟨b,o + q * 14 + 12,none⟩ = some (.slice A4 p.fls.length d3) := HCW.out w4 HF4.out 12 _ rfl
   have e13 : w4.cell? ⟨b,o + q * 14 + 13,none⟩ = some (.slice A5 p.keep.length d4) := HCW.out w4 HF4.out 13 _ rfl
   have hcall := op_copy p _ _ _ _ _ w4 HLP.out (HOP.out w4 HF4.out).shows
   have hold : ∀ y ∈ us,y.top ≤ w4.heap.size := fun y hy => by
    obtain ⟨i,hi⟩ := List.mem_iff_getElem?.1 hy
    obtain ⟨d,hd⟩ : ∃ d,(x.take q)[i]? = some d := ⟨_,List.getElem?_eq_getElem (by rw [← HW4.out.len];exact (List.getElem?_eq_some_iff.1 hi).1)⟩
    exact (HW4.out.own i d y hd hi).2.2
   have hqt : (x.take q).length = q := by rw [List.length_take,HM.out];omega
   have HQT := Lib.hid hqt
   have hbw4 := HB4.out.bw
   have hkw4 := HB4.out.kw
   have hs4 : w.heap.size ≤ w4.heap.size := HF4.out.size
   simp only [opC] at hcall
   clear HW HB1 HB2 HB3 HF1 HF2 HF3 hqt
   go_wp2_with (first
    | (go_at_call 47;refine hcall.mono ?_;rintro e w5 ⟨⟨dv',cv',fv',bv',kvs',⟨Q1,m1,p1,rfl⟩,⟨Q2,m2,p2,rfl⟩,⟨Q3,m3,p3,rfl⟩,⟨Q4,m4,p4,rfl⟩,rfl,hO5⟩,hb5⟩;have hb6 := one w5 (.cells #[.int .i64 p.kind,.int .i64 p.a,.int .i64 p.k,.int .i64 p.t,.int .i64 p.x,.int .i64 p.link,.slice Q1 m1 p1,.int .i64 p.sec,.int .i64 p.nano,.int .i64 p.blk,.int .i64 p.wid,.slice Q2 m2 p2,.slice Q3 m3 p3,.slice Q4 m4 p4] 108);have hrow5 := HW4.out.on hb5;have hrow6 := hrow5.on hb6;have hO6 := hO5.on hb6;have hrw := hrow6.row;rw [HQT.out] at hrw;have hb5s := hb5.size)
    | (at_builtin;go_loud (refine wpList_append_own _ rfl _ _ 58 rfl w.heap.size 108 i0 (.agg (opC opp0 nl nl nl nl)) 14 176 Tryz.underlying58 ei0 ez0 ez1 ez2 rfl (by decide) _ _ _ rfl (hrw.alloc _) ⟨w5.heap.size + 1,0,none⟩ 1 1 [_,_,_,_,_,_,_,_,_,_,_,_,_,_] rfl rfl (Sr.cells_at (by simp) _ _) ?c2 ?c3 ?c4 ?c5 ?_)))
   case c2 => first | exact ⟨rfl,rfl,rfl,rfl,rfl,rfl,rfl,rfl,rfl,rfl,rfl,rfl,rfl,rfl⟩ | exact one_ofK rfl
   case c3 => first | omega | (unfold maxLen;omega)
   case c4 => omega
   case c5 => first | omega | (simp;omega)
   intro v' w7 hown' hgrow _
   have hrow7 := hrow6.add (o := p) hO6 hs4 hold _ (by rw [HQT.out];exact hown') hgrow
   have hb6' := hb5.trans (hb6.mono hb5.size)
   have hbA := hb6'.trans ((one (w5.alloc (.cells #[.int .i64 p.kind,.int .i64 p.a,.int .i64 p.k,.int .i64 p.t,.int .i64 p.x,.int .i64 p.link,.slice Q1 m1 p1,.int .i64 p.sec,.int .i64 p.nano,.int .i64 p.blk,.int .i64 p.wid,.slice Q2 m2 p2,.slice Q3 m3 p3,.slice Q4 m4 p4] 108)) (.cells #[.int .i64 p.kind,.int .i64 p.a,.int .i64 p.k,.int .i64 p.t,.int .i64 p.x,.int .i64 p.link,.slice Q1 m1 p1,.int .i64 p.sec,.int .i64 p.nano,.int .i64 p.blk,.int .i64 p.wid,.slice Q2 m2 p2,.slice Q3 m3 p3,.slice Q4 m4 p4] 108)).mono hb6'.size)
   have hgr : ∀ g,(Value.slice A2 q k2).ownBlock = some g → w.heap.size ≤ g := fun g hg => (hrw.lt g hg).1
   have hF7 := (HF4.out.trans (Fu.of_below hbA hkw4)).grown hgrow hKw0 hgr
   have hX7 : Bx K w w7 := (HX4.out.trans (Bx.of_below hbA)).trans fun g cc hgK hcc => hgrow.block g (lt_of_cells hcc) fun e2 => by
    obtain ⟨cc2,hcc2⟩ := own_kind (hrw.alloc (.cells #[.int .i64 p.kind,.int .i64 p.a,.int .i64 p.k,.int .i64 p.t,.int .i64 p.x,.int .i64 p.link,.slice Q1 m1 p1,.int .i64 p.sec,.int .i64 p.nano,.int .i64 p.blk,.int .i64 p.wid,.slice Q2 m2 p2,.slice Q3 m3 p3,.slice Q4 m4 p4] 108)) e2.symm
    exact blk_ne hcc hcc2 (by decide) rfl
   have hso : ∀ i ∈ s2.o,(∀ g,i.v.ownBlock = some g → g < w.heap.size) ∧ (∀ g,i.u.ownBlock = some g → g < w.heap.size) := fun i hi => by
    rw [show s2.o = s0.o from HLN4.out.2] at hi
    obtain ⟨⟨⟨z1,r1⟩,-⟩,⟨⟨z2,r2⟩,-⟩⟩ := H0.out.ro i hi
    exact ⟨fun g hg => (r1.row.lt g hg).2,fun g hg => (r2.row.lt g hg).2⟩
   have hB7 := (HB4.out.on hbA).grown hgrow (Hn := w.heap.size) (fun g hg => by
    obtain ⟨cc,hcc⟩ := own_kind (hrw.alloc (.cells #[.int .i64 p.kind,.int .i64 p.a,.int .i64 p.k,.int .i64 p.t,.int .i64 p.x,.int .i64 p.link,.slice Q1 m1 p1,.int .i64 p.sec,.int .i64 p.nano,.int .i64 p.blk,.int .i64 p.wid,.slice Q2 m2 p2,.slice Q3 m3 p3,.slice Q4 m4 p4] 108)) hg
    exact ⟨⟨cc,hcc⟩,hgr g hg⟩) hKw0 hso
   obtain ⟨A',c',rfl,-⟩ := Sr.own_sl hown'
   have HB7 := Lib.hid hB7
   have HF7 := Lib.hid (And.intro hF7 hX7)
   have HROW := Lib.hid hrow7
   rw [HP.out] at HROW
   have HT7 := Lib.hid (And.intro HT4.out (And.intro HNEXT.out (Nat.max_le.2 ⟨HT.out.2.2,htT⟩)))
   clear hrow6 hO6 hgrow hown' hrw hrow5 hO5 hb5 hb6 hb6' hbA e0 e1 e2 e3 e4 e5 e6 e7 e8 e9 e10 e11 e12 e13 hcall hold hrow7 hB7 hF7 hX7 hso hgr
   go_wp2
   go_roundw
   case rel => exact ⟨q + 1,_,_,_,A',c',by omega,rfl,by go_num,HB7,HROW,HT7,HF7,HLN4⟩
   case measure => simp [intOf];omega
  ·obtain rfl : q = m := by omega
   have i1 : ¬ (q : Int) < (q : Int) := by omega
   have HXT : Hid (x.take q = x) := Lib.hid (List.take_of_length_le (by rw [HM.out];exact Nat.le_refl _))
   have hW := HW.out
   rw [HXT.out] at hW
   have hO1 := ORow.fu HO.out HF.out (show K < b0 by omega)
   have hv : RowO B (.slice A q c) x wr := ⟨⟨vs,ORow_low hO1 hBb⟩,HL.out,by rw [HM.out];omega⟩
   have hu : RowO B (.slice A2 q k2) x wr := ⟨⟨us,ORow_low hW hbw0⟩,HL.out,by rw [HM.out];omega⟩
   have hso : s.o = s0.o := HLN.out.2
   have ha : Sr.Apt (s.o.map (·.v) ++ [.slice A q c]) := apt_snoc HB.out.ao (H := H) (by rw [hso];exact HT0.out.o) fun g hg => by have := (HO.out.row.lt g hg).1;omega
   have hn : s.o.length ≤ 1000000000000 := by rw [hso];have := HN.out.o;omega
   have HTF : Hid (TpS s T ∧ Tp (s.o.map (·.v) ++ [.slice A q c]) T) := Lib.hid ⟨HT.out.1.mono HT.out.2.2,(HT.out.1.mono HT.out.2.2).o.app (Tp.one HVT.out)⟩
   have HBG : Hid (Big s (N0 + 1000000000 - 1)) := Lib.hid (HLN.out.1.mono (by omega))
   obtain ⟨a0,a1,hp⟩ := HB.out.ho
   have ba0 := HB.out.ba
   have hkb := HB.out.kb
   have hbw := HB.out.bw
   have hkw := HB.out.kw
   have HA := Lib.hid ha
   have HV := Lib.hid hv
   have HU := Lib.hid hu
   obtain ⟨ps,hvs⟩ : ∃ l,s.o.map (·.v) = l := ⟨_,rfl⟩
   obtain ⟨qs,hus⟩ : ∃ l,s.o.map (·.u) = l := ⟨_,rfl⟩
   rw [hvs,hus] at hp
   have hvl : ps.length = s.o.length := by rw [← hvs,List.length_map]
   have hul : qs.length = s.o.length := by rw [← hus,List.length_map]
   obtain ⟨n,hnn⟩ : ∃ n,s.o.length = n := ⟨_,rfl⟩
   rw [hnn] at hvl hul hn
   have HVL := Lib.hid hvl
   have HUL := Lib.hid hul
   have HVS := Lib.hid hvs
   have HUS := Lib.hid hus
   have hb0 := one wr (.cells #[.slice A q c] 58)
   have hp0 := hp.on hb0 hkw
   have fk0 : Fk kO K wr _ := Fk.of_below hb0 hkw
   have o00 : (wr.alloc (.cells #[.slice A q c] 58)).ownsRow B 58 1 a0 n ps := by have h9 := hp0.o0;rwa [HVL.out] at h9
   have bw0 : B ≤ (wr.alloc (.cells #[.slice A q c] 58)).heap.size := Nat.le_trans hbw hb0.size
   have c2 : wr.cell? ⟨K,47,none⟩ = some a0 := hp.c0
   have c2a := keepc hb0 c2
   have kf0 : ∀ o,(wr.alloc (.cells #[.slice A q c] 58)).frozen? ⟨K,o,none⟩ = false := fun o => (World.frozen?_of_block (a := ⟨K,o,none⟩) (hb0.block K hkw)).trans (ba0.fz o)
   have hKa : K < (wr.alloc (.cells #[.slice A q c] 58)).heap.size := Nat.lt_of_lt_of_le hkw hb0.size
   clear hvl hul hvs hus hnn hp ba0 ha hv hu hW hO1 hso HW
   go_wp2_with (at_builtin;go_loud (refine wpList_append_s rfl _ _ 54 rfl B 58 inf (.slice none 0 0) 1 24 Tryz.underlying54 hi0 hz0 hz1 hz2 rfl (by decide) a0 n ps rfl o00 ⟨wr.heap.size,0,none⟩ 1 [.slice A q c] rfl rfl (Sr.cells_at rfl _ _) ?c1 ?c2 ?c3 ?c4 ?_))
   case c1 => first | exact one_ofK rfl | rfl
   case c2 => first | omega | (unfold maxLen;omega)
   case c3 => omega
   case c4 => first | exact bw0 | omega
   intro v0' w1 ho0 ha0
   obtain ⟨g0,k0,rfl,-,-⟩ := ho0.form (by omega)
   obtain ⟨hp1,fk1⟩ := hp0.app0 hkb bw0 (by rw [HVL.out];exact ha0) (by rw [HVL.out];exact ho0)
   have hkK := ha0.grown.block K hKa (kb_ne o00 hkb)
   have k2' : w1.cell? ⟨K,47,none⟩ = some a0 := (World.cell?_of_block (a := ⟨K,47,none⟩) hkK).trans c2a
   have kf : ∀ o,w1.frozen? ⟨K,o,none⟩ = false := fun o => (World.frozen?_of_block (a := ⟨K,o,none⟩) hkK).trans (kf0 o)
   have fk2 := fk0.trans fk1
   clear hp0 ho0 ha0 hkK o00 c2a kf0 hKa bw0 fk0 fk1 hb0 c2
   go_upto_region 11 with fail
   have fz1 := fk2.fz (HB.out.ba.fz)
   have hs1 := fk2.size
   clear k2' kf
   change Code.wp _ _ _ _ (w1.setCell ⟨K,47,none⟩ (.slice (some ⟨g0,0,none⟩) (n + 1) k0))
   have hp1' : Hp kO B K (.slice (some ⟨g0,0,none⟩) (n + 1) k0) a1 (ps ++ [.slice A q c]) qs (w1.setCell ⟨K,47,none⟩ (.slice (some ⟨g0,0,none⟩) (n + 1) k0)) := hp1
   have fk2' : Fk kO K wr (w1.setCell ⟨K,47,none⟩ (.slice (some ⟨g0,0,none⟩) (n + 1) k0)) := fk2
   have fz1' : ∀ o,(w1.setCell ⟨K,47,none⟩ (.slice (some ⟨g0,0,none⟩) (n + 1) k0)).frozen? ⟨K,o,none⟩ = false := fz1
   have hs1' : wr.heap.size ≤ (w1.setCell ⟨K,47,none⟩ (.slice (some ⟨g0,0,none⟩) (n + 1) k0)).heap.size := hs1
   clear hp1 fk2 fz1 hs1
   generalize w1.setCell ⟨K,47,none⟩ (.slice (some ⟨g0,0,none⟩) (n + 1) k0) = W1 at hp1' fk2' fz1' hs1' ⊢
   have hkW : K < W1.heap.size := by omega
   have hb1 := one W1 (.cells #[.slice A2 q k2] 58)
   have hp2 := hp1'.on hb1 hkW
   have c3 : W1.cell? ⟨K,48,none⟩ = some a1 := hp1'.c1
   have c3a := keepc hb1 c3
   have o14 : (W1.alloc (.cells #[.slice A2 q k2] 58)).ownsRow B 58 1 a1 n qs := by have h9 := hp2.o1;rwa [HUL.out] at h9
   have bw4 : B ≤ (W1.alloc (.cells #[.slice A2 q k2] 58)).heap.size := by have := hb1.size;omega
   have hKb : K < (W1.alloc (.cells #[.slice A2 q k2] 58)).heap.size := Nat.lt_of_lt_of_le hkW hb1.size
   have kf1 : ∀ o,(W1.alloc (.cells #[.slice A2 q k2] 58)).frozen? ⟨K,o,none⟩ = false := fun o => (World.frozen?_of_block (a := ⟨K,o,none⟩) (hb1.block K hkW)).trans (fz1' o)
   go_wp2_with (at_builtin;go_loud (refine wpList_append_s rfl _ _ 54 rfl B 58 inf (.slice none 0 0) 1 24 Tryz.underlying54 hi0 hz0 hz1 hz2 rfl (by decide) a1 n qs rfl o14 ⟨W1.heap.size,0,none⟩ 1 [.slice A2 q k2] rfl rfl (Sr.cells_at rfl _ _) ?c1 ?c2 ?c3 ?c4 ?_))
   case c1 => first | exact one_ofK rfl | rfl
   case c2 => first | omega | (unfold maxLen;omega)
   case c3 => omega
   case c4 => first | exact bw4 | omega
   intro v1' w4 ho1 ha1
   obtain ⟨g1,k1,rfl,-,-⟩ := ho1.form (by omega)
   obtain ⟨hpF,fkF⟩ := hp2.app1 hkb bw4 (by rw [HUL.out];exact ha1) (by rw [HUL.out];exact ho1)
   have hkK := ha1.grown.block K hKb (kb_ne o14 hkb)
   have k43 : w4.cell? ⟨K,48,none⟩ = some a1 := (World.cell?_of_block (a := ⟨K,48,none⟩) hkK).trans c3a
   have kf4 : ∀ o,w4.frozen? ⟨K,o,none⟩ = false := fun o => (World.frozen?_of_block (a := ⟨K,o,none⟩) hkK).trans (kf1 o)
   have fkA := fk2'.trans ((Fk.of_below hb1 hkW).trans fkF)
   have hvF := HV.out.fu (fkA.fu frU_O) hkb
   have huF := HU.out.fu (fkA.fu frU_O) hkb
   have hpG : Hp kO B K (.slice (some ⟨g0,0,none⟩) (n + 1) k0) (.slice (some ⟨g1,0,none⟩) (n + 1) k1) (s.o.map (·.v) ++ [.slice A q c]) (s.o.map (·.u) ++ [.slice A2 q k2]) (w4.setCell ⟨K,kO.o + 1,none⟩ (.slice (some ⟨g1,0,none⟩) (n + 1) k1)) := by rw [HVS.out,HUS.out];exact hpF
   have HFIN := Lib.hid (HB.out.addO fkA ⟨_,_,hpG⟩ hvF huF HA.out)
   have HFU := Lib.hid (And.intro (HF.out.trans (fkA.fu frU_O)) (HX.out.trans (fkA.bx (by decide))))
   clear hpF fkF hkK hvF huF hpG fkA ho1 ha1 o14 c3 c3a kf1 hp2 hp1' fk2' fz1'
   go_wp2
   go_end0
   refine ⟨rfl,⟨_,HFIN.out,⟨HTF.out.1.b,HTF.out.1.l,HTF.out.1.c,HTF.out.1.f,?_⟩,⟨Nat.le_trans HBG.out.b (by omega),Nat.le_trans HBG.out.l (by omega),Nat.le_trans HBG.out.c (by omega),Nat.le_trans HBG.out.f (by omega),?_⟩⟩,HFU.out⟩
   ·have h9 := HTF.out.2
    show Tp ((s.o ++ [_] : List (It (List Opp))).map (fun i => i.v)) T
    rw [List.map_append]
    exact h9
   ·show (s.o ++ [_] : List (It (List Opp))).length ≤ _
    rw [List.length_append]
    have := HBG.out.o
    simp only [List.length_singleton]
    omega
end Go.Proofs.YtpkmekdpmkfcdaaGreatDoor.Kb
