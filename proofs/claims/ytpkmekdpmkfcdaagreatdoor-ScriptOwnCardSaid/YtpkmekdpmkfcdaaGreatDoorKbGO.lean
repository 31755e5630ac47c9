/- Contract: each kept list of one kind is grown by one more element. -/
import Derived.Test.YtpkmekdpmkfcdaaGreatDoorKbA
import Derived.Deep.RegionLaw
import Derived.RegionTactic
namespace Go.Proofs.YtpkmekdpmkfcdaaGreatDoor.Kb
set_option linter.unusedVariables false
set_option linter.unusedSimpArgs false
open Go.RowKit Go.Proofs.YtpkmekdpmkfcdaaGreatDoor.Wd Go.Proofs.YtpkmekdpmkfcdaaGreatDoor.Px Go.Proofs.YtpkmekdpmkfcdaaGreatDoor.By Go.Proofs.YtpkmekdpmkfcdaaGreatDoor.Pf Go.Proofs.YtpkmekdpmkfcdaaGreatDoor.Sc
open Go.Proofs.YtpkmekdpmkfcdaaGreatDoor.Sr (own_same own_kind own_low CRow ORow OpO Opv Und fltC Lim LimO chC opC nl put14)
theorem one_ofO {l : List Value} (h : l.all (fun u => u.oneCell') = true) : ∀ u ∈ l,u.oneCell' = true := List.all_eq_true.1 h
theorem infoRO : (Tryz.prog.info? 58).map (fun i => (i.zero,i.size,i.bytes)) = some (some (.slice none 0 0),1,24) := by kernel_rfl
theorem infoEO : (Tryz.prog.info? 108).map (fun i => (i.zero,i.size,i.bytes)) = some (some (.agg (opC opp0 nl nl nl nl)),14,176) := by kernel_rfl
set_option maxRecDepth 20000 in
set_option maxHeartbeats 8000000 in
theorem grow_O (B K p id t : Nat) (ls gs : List Lst) (w : World) (h : Kst kO B K ls gs w) (hb : Bas K p w) (hGr : Gr kO p id ls 0 t gs) (hKB : K < B) (hBW : B ≤ w.heap.size) (hp : p ≤ 1) (ht9 : t ≤ 70) (hid : id ≤ 5000000000000) (hn : ls.length ≤ 1000000000000) (hm : Mkd kO p id ls) (hl : ∀ l ∈ ls,l.n ≤ 2000000) :
  Calls Tryz.prog 136 #[.pointer (some ⟨K,0,none⟩),.int .i64 (id : Int),.int .i64 (t : Int)] w fun e w' => e = .returned (.int .i64 ((id + ls.length : Nat) : Int)) ∧ ∃ ks,Kst kO B K ls ks w' ∧ Gr kO p id ls 0 (t + 1) ks ∧ Fr kO K w w' := by
 obtain ⟨inf,hi0,hz0,hz1,hz2⟩ := info_parts infoRO
 obtain ⟨inb,bi0,bz0,bz1,bz2⟩ := info_parts infoEO
 obtain ⟨n,hnn⟩ : ∃ n,ls.length = n := ⟨_,rfl⟩
 rw [hnn] at hn ⊢
 obtain ⟨I0,hI0⟩ : ∃ I : Int,(id : Int) = I := ⟨_,rfl⟩
 obtain ⟨IN,hIN⟩ : ∃ I : Int,((id + n : Nat) : Int) = I := ⟨_,rfl⟩
 obtain ⟨tz,htz⟩ : ∃ z : Int,(t : Int) = z := ⟨_,rfl⟩
 rw [hI0,hIN,htz]
 have HI0 := Lib.hid hI0
 have HIN := Lib.hid hIN
 have HTZ := Lib.hid htz
 have HNN := Lib.hid hnn
 have HL := Lib.hid hl
 have HM0 := Lib.hid hm
 have HB0 := Lib.hid hb
 have hKw : K < w.heap.size := by omega
 clear hnn hl hb hI0 hIN htz hm
 go_enter Tryz.func136,Tryz.ntmps136
 go_wp2
 go_loopw [1,7] (fun v i wr => ∃ (q : Nat) (gs : List Lst) (I : Int),q ≤ n ∧ Hid (((id + q : Nat) : Int) = I) ∧ v = .int .i64 I ∧ i = .int .i64 (q : Int) ∧ Hid (Kst kO B K ls gs wr) ∧ Hid (Gr kO p id ls q t gs) ∧ Hid (Fr kO K w wr)) (fun _ i _ => n - (intOf i).toNat)
 case atStart => exact ⟨0,gs,I0,Nat.zero_le _,HI0,rfl,rfl,Lib.hid h,Lib.hid hGr,Lib.hid (Fr.refl _ _ _)⟩
 case round =>
  clear h hGr
  obtain ⟨q,gs,I,hq,HI,rfl,rfl,HK,HGR,HF⟩ := hrel
  obtain ⟨v0,v2,hd⟩ := HK.out.hd
  have o0 := hd.o0
  rw [HNN.out] at o0
  obtain ⟨A0,k0,rfl,-⟩ := Sr.own_sl o0
  have c2 : wr.cell? ⟨K,47,none⟩ = some (.slice A0 n k0) := hd.c0
  have hwr := HF.out.size
  by_cases hlt : q < n
  ·have i1 : (q : Int) < (n : Int) := by omega
   obtain ⟨J,hJ⟩ : ∃ J : Int,((id + q + 1 : Nat) : Int) = J := ⟨_,rfl⟩
   have iw : IntKind.i64.wrap (I + 1) = J := by rw [← HI.out,← hJ,IntWalk.i64_in _ ⟨by omega,by omega⟩];simp
   have HJ := Lib.hid hJ
   obtain ⟨⟨lv,m,ld⟩,hl0⟩ : ∃ l,ls[q]? = some l := ⟨_,List.getElem?_eq_getElem (by rw [HNN.out];exact hlt)⟩
   have hm9 : m ≤ 2000000 := HL.out _ (List.mem_of_getElem? hl0)
   have HL0 := Lib.hid hl0
   have hql : q < ls.length := by rw [HNN.out];exact hlt
   have HQL := Lib.hid hql
   clear hJ hql
   go_upto_if 21 with fail
   go_cut [7] (fun v7 wx => v7 = .int .i64 (q : Int) ∧ ∃ (gs : List Lst),Hid (Kst kO B K ls gs wx) ∧ Hid (Gm kO p id ls q t gs) ∧ Hid (Fr kO K w wx))
   case first =>
    by_cases ht : t = 0
    ·have it : (tz == 0) = true := by rw [beq_iff_eq,← HTZ.out];omega
     obtain ⟨g0,k0',e0,-,-⟩ := o0.form (by omega)
     injection e0 with e0 _ e1
     subst e0 e1
     have cx0 := (o0.cellAt q (by omega)).trans (by rw [List.getElem?_map,hl0];rfl : (ls.map (·.v))[q]? = some lv)
     have hgl : gs.length = q := by have := HGR.out.1;rw [if_pos ht] at this;exact this
     obtain ⟨Ax,kx,rfl,-⟩ := Sr.own_sl (show wr.ownsRow B kO.e kO.s lv m ld from HK.out.rv q _ hl0)
     have o2 := hd.o2
     rw [hgl] at o2
     obtain ⟨A2,k2,rfl,-⟩ := Sr.own_sl o2
     have c4 : wr.cell? ⟨K,49,none⟩ = some (.slice A2 q k2) := hd.c2
     have hbA := (one wr (.cells #[.slice Ax m kx] 58)).drew
     have kA := HK.out.on hbA (by omega)
     have fA := HF.out.trans (Fr.of_below hbA (by omega))
     have c4a := keepc hbA c4
     have oA : (wr.alloc (.cells #[.slice Ax m kx] 58)).drew.ownsRow B 58 1 (.slice A2 q k2) q (List.map (fun (x : Lst) => x.v) gs) := own_same o2 fun k hk => hbA.block k (o2.lt k hk).2
     have bA : B ≤ (wr.alloc (.cells #[.slice Ax m kx] 58)).drew.heap.size := by have := hbA.size;omega
     have kfz : ∀ o,wr.frozen? ⟨K,o,none⟩ = false := (HB0.out.fr HF.out (by decide) emp_O).fz
     have kfz_a : ∀ o,(wr.alloc (.cells #[.slice Ax m kx] 58)).drew.frozen? ⟨K,o,none⟩ = false := fun o => (World.frozen?_of_block (a := ⟨K,o,none⟩) (hbA.block K (by omega))).trans (kfz o)
     have HPS : Hid (Gm kO p id ls q t (gs ++ [⟨.slice Ax m kx,m,ld⟩])) := Lib.hid (by have := HGR.out;rw [ht] at this ⊢;exact this.push hl0 (HM0.out q _ hl0))
     have HLG : Hid (ls[gs.length]? = some ⟨.slice Ax m kx,m,ld⟩) := Lib.hid (by rw [hgl];exact hl0)
     have HGL := Lib.hid hgl
     have HKA := Lib.hid kA
     have HFA := Lib.hid fA
     clear hgl hd o0 o2 hl0 kA fA
     have hKa : K < (wr.alloc (.cells #[.slice Ax m kx] 58)).drew.heap.size := by omega
     go_upto_region 6 with fail
     go_region_law (first
      | (refine step_append_s rfl (.tmp 26) (.tmp 34) 54 rfl B 58 inf (.slice none 0 0) 1 24 Tryz.underlying54 hi0 hz0 hz1 hz2 rfl (by decide) (.slice A2 q k2) q (List.map (fun (x : Lst) => x.v) gs) rfl oA ⟨wr.heap.size,0,none⟩ 1 [_] rfl rfl (Sr.cells_at rfl _ _) ?c1 (by unfold maxLen;omega) (by omega) bA ?_;(case c1 => exact one_ofO rfl);intro v' w4 ho ha;obtain ⟨g',k',rfl,-,-⟩ := ho.form (by omega);have k44 := (World.cell?_of_block (a := ⟨K,49,none⟩) (ha.grown.block K hKa (kb_ne oA hKB))).trans c4a;have k4f : ∀ o,w4.frozen? ⟨K,o,none⟩ = false := fun o => (World.frozen?_of_block (a := ⟨K,o,none⟩) (ha.grown.block K hKa (kb_ne oA hKB))).trans (kfz_a o)))
     all_goals
      have hpu := HKA.out.push (l := ⟨.slice Ax m kx,m,ld⟩) hKB bA (by decide) c4a HLG.out (by rw [HGL.out];exact ha) (by rw [HGL.out];exact ho)
      have HKB := Lib.hid hpu.1
      have HFB := Lib.hid (HFA.out.trans hpu.2)
      clear hpu ho ha k44 k4f oA c4a kfz kfz_a cx0 c2 c4
      go_wp2_with fail
      go_meet
      exact ⟨rfl,_,HKB,HPS,HFB⟩
    ·have it : (tz == 0) = false := by rw [beq_eq_false_iff_ne,← HTZ.out];omega
     have HGM := Lib.hid (HGR.out.mid ht HQL.out)
     clear hd o0 hl0
     go_wp2_with fail
     go_meet
     exact ⟨rfl,gs,HK,HGM,HF⟩
   obtain ⟨rfl,gs,HK,HGM,HF⟩ := hcut
   clear hd o0 hl0 c2 hwr HGR
   have hwc := HF.out.size
   obtain ⟨v0,v2,hd⟩ := HK.out.hd
   obtain ⟨⟨gv,my,gd⟩,hg0,egn,egd⟩ := HGM.out.get HL0.out
   have hmy9 : my ≤ 2000070 := by have h1 : my = m + t := egn;omega
   obtain ⟨m2,hm2⟩ : ∃ k,gs.length = k := ⟨_,rfl⟩
   have hqm : q < m2 := by have := HGM.out.1;omega
   have iqm : (q : Int) < (m2 : Int) := by omega
   have o2 := hd.o2
   rw [hm2] at o2
   obtain ⟨G,kG,rfl,-,-⟩ := o2.form (by omega)
   have cy0 : wc.cell? ⟨G,q,none⟩ = some gv := (o2.cellAt q (by omega)).trans (by rw [List.getElem?_map,hg0];rfl)
   have c4 : wc.cell? ⟨K,49,none⟩ = some (.slice (some ⟨G,0,none⟩) m2 kG) := hd.c2
   have c1 := (HB0.out.fr HF.out (by decide) emp_O).c1
   have oy : wc.ownsRow B kO.e kO.s gv my gd := HK.out.rg q _ hg0
   obtain ⟨Ay,ky,rfl,-⟩ := Sr.own_sl oy
   obtain ⟨M,hM⟩ : ∃ M : Int,((2 * (my) + p : Nat) : Int) = M := ⟨_,rfl⟩
   have HM := Lib.hid hM
   have hid2 : id + q + 1 ≤ 10000000000000 := by omega
   have hmy2 : my ≤ 10000000000000 := by omega
   have HG0 := Lib.hid hg0
   have HOY := Lib.hid oy
   have HO2 := Lib.hid o2
   clear hM hg0 egn egd hm2 hd oy o2
   go_wp2_with fail
   refine (mark_O_as HJ HM _ c1 hp hid2 hmy2).mono ?_
   rintro e w3 ⟨rfl,hb3⟩
   have hb4 := hb3.trans ((one w3 (.cells #[.int .i64 J,.int .i64 M,.int .i64 0,.int .i64 0,.int .i64 0,.int .i64 0,.slice none 0 0,.int .i64 0,.int .i64 0,.int .i64 0,.int .i64 0,.slice none 0 0,.slice none 0 0,.slice none 0 0] 108)).mono hb3.size)
   have hB4 : Sr.Blk w3.heap.size #[.int .i64 J,.int .i64 M,.int .i64 0,.int .i64 0,.int .i64 0,.int .i64 0,.slice none 0 0,.int .i64 0,.int .i64 0,.int .i64 0,.int .i64 0,.slice none 0 0,.slice none 0 0,.slice none 0 0] 108 (w3.alloc (.cells #[.int .i64 J,.int .i64 M,.int .i64 0,.int .i64 0,.int .i64 0,.int .i64 0,.slice none 0 0,.int .i64 0,.int .i64 0,.int .i64 0,.int .i64 0,.slice none 0 0,.slice none 0 0,.slice none 0 0] 108)) := Sr.blk_new w3 _ _
   go_upto_region 8 with fail
   change Code.wp _ _ _ _ (w3.alloc (.cells #[.int .i64 J,.int .i64 M,.int .i64 0,.int .i64 0,.int .i64 0,.int .i64 0,.slice none 0 0,.int .i64 0,.int .i64 0,.int .i64 0,.int .i64 0,.slice none 0 0,.slice none 0 0,.slice none 0 0] 108))
   obtain ⟨P,hP⟩ : ∃ P,w3.heap.size = P := ⟨_,rfl⟩
   rw [hP] at hB4 ⊢
   generalize (w3.alloc (.cells #[.int .i64 J,.int .i64 M,.int .i64 0,.int .i64 0,.int .i64 0,.int .i64 0,.slice none 0 0,.int .i64 0,.int .i64 0,.int .i64 0,.int .i64 0,.slice none 0 0,.slice none 0 0,.slice none 0 0] 108)) = W4 at hb4 hB4 ⊢
   replace hB4 := hB4.on (Below.refl _ _).drew
   have cb0 : W4.drew.cell? ⟨P,0,none⟩ = some (.int .i64 J) := hB4.cell rfl
   have cb1 : W4.drew.cell? ⟨P,1,none⟩ = some (.int .i64 M) := hB4.cell rfl
   have cb2 : W4.drew.cell? ⟨P,2,none⟩ = some (.int .i64 0) := hB4.cell rfl
   have cb3 : W4.drew.cell? ⟨P,3,none⟩ = some (.int .i64 0) := hB4.cell rfl
   have cb4 : W4.drew.cell? ⟨P,4,none⟩ = some (.int .i64 0) := hB4.cell rfl
   have cb5 : W4.drew.cell? ⟨P,5,none⟩ = some (.int .i64 0) := hB4.cell rfl
   have cb6 : W4.drew.cell? ⟨P,6,none⟩ = some (.slice none 0 0) := hB4.cell rfl
   have cb7 : W4.drew.cell? ⟨P,7,none⟩ = some (.int .i64 0) := hB4.cell rfl
   have cb8 : W4.drew.cell? ⟨P,8,none⟩ = some (.int .i64 0) := hB4.cell rfl
   have cb9 : W4.drew.cell? ⟨P,9,none⟩ = some (.int .i64 0) := hB4.cell rfl
   have cb10 : W4.drew.cell? ⟨P,10,none⟩ = some (.int .i64 0) := hB4.cell rfl
   have cb11 : W4.drew.cell? ⟨P,11,none⟩ = some (.slice none 0 0) := hB4.cell rfl
   have cb12 : W4.drew.cell? ⟨P,12,none⟩ = some (.slice none 0 0) := hB4.cell rfl
   have cb13 : W4.drew.cell? ⟨P,13,none⟩ = some (.slice none 0 0) := hB4.cell rfl
   clear hP hb3 hB4
   have hb5 := (hb4.trans ((one W4 (.cells #[.int .i64 J,.int .i64 M,.int .i64 0,.int .i64 0,.int .i64 0,.int .i64 0,.slice none 0 0,.int .i64 0,.int .i64 0,.int .i64 0,.int .i64 0,.slice none 0 0,.slice none 0 0,.slice none 0 0] 108)).mono hb4.size)).drew
   have c4d : W4.drew.cell? ⟨K,49,none⟩ = some (.slice (some ⟨G,0,none⟩) m2 kG) := keepc hb4 c4
   have cyd : W4.drew.cell? ⟨G,q,none⟩ = some (.slice Ay my ky) := keepc hb4 cy0
   have c4a := keepc hb5 c4
   have cya := keepc hb5 cy0
   have oA : (W4.alloc (.cells #[.int .i64 J,.int .i64 M,.int .i64 0,.int .i64 0,.int .i64 0,.int .i64 0,.slice none 0 0,.int .i64 0,.int .i64 0,.int .i64 0,.int .i64 0,.slice none 0 0,.slice none 0 0,.slice none 0 0] 108)).drew.ownsRow B 108 14 (.slice Ay my ky) my gd := own_same HOY.out fun k hk => hb5.block k (HOY.out.lt k hk).2
   have o2A : (W4.alloc (.cells #[.int .i64 J,.int .i64 M,.int .i64 0,.int .i64 0,.int .i64 0,.int .i64 0,.slice none 0 0,.int .i64 0,.int .i64 0,.int .i64 0,.int .i64 0,.slice none 0 0,.slice none 0 0,.slice none 0 0] 108)).drew.ownsRow B 58 1 (.slice (some ⟨G,0,none⟩) m2 kG) m2 (List.map (fun (x : Lst) => x.v) gs) := own_same HO2.out fun k hk => hb5.block k (HO2.out.lt k hk).2
   have bA : B ≤ (W4.alloc (.cells #[.int .i64 J,.int .i64 M,.int .i64 0,.int .i64 0,.int .i64 0,.int .i64 0,.slice none 0 0,.int .i64 0,.int .i64 0,.int .i64 0,.int .i64 0,.slice none 0 0,.slice none 0 0,.slice none 0 0] 108)).drew.heap.size := by have := hb5.size;omega
   have hKa : K < (W4.alloc (.cells #[.int .i64 J,.int .i64 M,.int .i64 0,.int .i64 0,.int .i64 0,.int .i64 0,.slice none 0 0,.int .i64 0,.int .i64 0,.int .i64 0,.int .i64 0,.slice none 0 0,.slice none 0 0,.slice none 0 0] 108)).drew.heap.size := by omega
   have HKA := Lib.hid (HK.out.on hb5 (by omega))
   have HFA := Lib.hid (HF.out.trans (Fr.of_below hb5 (by omega)))
   clear c1 c4 cy0 hb4
   go_region_law (first
    | (refine step_append_s rfl (.tmp 60) (.tmp 62) 58 rfl B 108 inb (.agg (opC opp0 nl nl nl nl)) 14 176 Tryz.underlying58 bi0 bz0 bz1 bz2 rfl (by decide) (.slice Ay my ky) my gd rfl oA ⟨W4.heap.size,0,none⟩ 1 [_,_,_,_,_,_,_,_,_,_,_,_,_,_] rfl rfl (Sr.cells_at rfl _ _) ?c1 (by unfold maxLen;omega) (by omega) bA ?_;(case c1 => exact one_ofO rfl);intro v' w6 ho ha;obtain ⟨g',k',rfl,-,-⟩ := ho.form (by omega);have c46 := (World.cell?_of_block (a := ⟨K,49,none⟩) (ha.grown.block K hKa (kb_ne oA hKB))).trans c4a;have o26 := ha.keep _ _ _ _ _ _ o2A (fun g hg hg2 => absurd hg2 (own_ne o2A oA (by decide) hg));have cz := (o26.cellAt q (by omega)).trans ((o2A.cellAt q (by omega)).symm.trans cya);have czf := o26.frozenAt))
   all_goals
    have hgr := HKA.out.grow hKB bA (by decide) c4a HG0.out ha ho
    have HKB2 := Lib.hid hgr.1
    have HFB := Lib.hid (HFA.out.trans hgr.2)
    have HGS := Lib.hid (HGM.out.step HG0.out (.slice (some ⟨g',0,none⟩) (my + 1) k'))
    rw [mkO_eq HJ HM] at HGS
    clear hgr ho ha cz czf c46 o26 oA o2A c4a cya c4d cyd
    go_wp2
    go_roundw
    case rel => exact ⟨q + 1,_,J,by omega,HJ,rfl,by go_num,HKB2,HGS,HFB⟩
    case measure => simp [intOf];omega
  ·obtain rfl : q = n := by omega
   have i1 : ¬ (q : Int) < (q : Int) := by omega
   have HV : Hid (I = IN) := Lib.hid (by rw [← HI.out,← HIN.out])
   clear hd o0
   go_wp2
   go_ret
   have hv := HV.out
   subst hv
   exact ⟨rfl,gs,HK.out,(show Gr kO p id ls ls.length t gs by rw [HNN.out];exact HGR.out).turn,HF.out⟩
end Go.Proofs.YtpkmekdpmkfcdaaGreatDoor.Kb
