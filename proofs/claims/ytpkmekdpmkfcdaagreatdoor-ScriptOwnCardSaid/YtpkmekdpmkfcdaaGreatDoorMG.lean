/- A range over a function whose iterator keeps its state in one cell of its own: what the caller owes. Over any program. The iterator over the parts of a text. A drawn region in a round of a range over a function, by the words of the plain walk. Over any program. -/
import Derived.Test.YtpkmekdpmkfcdaaGreatDoorWords
import Derived.RangeFuncFrom
import Derived.RangeFuncLeaves
import Derived.Test.YtpkmekdpmkfcdaaGreatDoorME
import Derived.Shelf.Abstract
import Derived.Shelf.AbstractIn
import Derived.WalkKit
import Derived.OwnWalkIn
import Derived.TacticsInMore
import Derived.LoopNIn
import Derived.LoopIn
import Derived.Test.YtpkmekdpmkfcdaaGreatDoorAfter
import Derived.RangeFuncCalls
import Derived.OrdersIn
import Derived.StillTailTactics
namespace Go.Proofs.YtpkmekdpmkfcdaaGreatDoor.Wd
open Go.RowKit
/-- the caller's word does not mind what the iterator writes into its cell -/
def Minds {β : Type} (St : Nat) (J : β → World → Prop) : Prop := ∀ s W v,J s W → J s (W.setCell ⟨St,0,none⟩ v)
/-- an iterator that hands out the list xs, one value a round (enc: the round's number and the value), and writes one cell alone; Kp: what a round that goes on keeps for it -/
def Iter {α : Type} (F : Fence) (n : Nat) (P : Program) (g : Nat) (lb : Array Value) (enc : Nat → α → Array Value) (Kp : World → World → Prop) (St : Nat) (xs : List α) (w : World) : Prop :=
 ∀ (l : Nat) (J Jx : List α → World → Prop) (W : World),Below w.heap.size w W → Minds St J → Minds St Jx →
  (∀ pre x W1,J pre W1 → pre ++ [x] <+: xs → YieldAt F (n - 1) P l (enc pre.length x) W1 fun e W' =>
   (e = .returned (.bool true) ∧ J (pre ++ [x]) W' ∧ Kp W1 W') ∨ (e = .returned (.bool false) ∧ Jx (pre ++ [x]) W')) →
  J [] W →
  CallsIn F n P g (#[.func (.yield l) #[] #[]] ++ lb) W fun e W' => (∃ v,e = .returned v) ∧ (J xs W' ∨ ∃ pre,pre <+: xs ∧ Jx pre W')
variable {F : Fence} {n : Nat} {P : Program}
theorem setCell_obj {W : World} {St k : Nat} {v : Value} (h : k ≠ St) : (W.setCell ⟨St,0,none⟩ v).heap[k]? = W.heap[k]? := Below.heap_setCell W ⟨St,0,none⟩ v k h
theorem range_iter {α : Type} {g : Operand} {ps : Array Tmp} {assign body : Code} {Q : Exit → Act → World → Prop} {a : Act} {w : World}
  (hro : F.round = none) (h1 : 1 ≤ n) {gf : Nat} {lb : Array Value} (hg : a.eval g = .func (.func gf) #[] lb) (hFg : F.fn gf) (eg : ∀ args w,(callFunc gf args).run P w = .ok (.enter gf args) w)
  {enc : Nat → α → Array Value} {Kp : World → World → Prop} {St : Nat} {xs : List α} (hseq : Iter F (n - 1) P gf lb enc Kp St xs w) (hSt : St < w.heap.size)
  (hKt : ∀ {A B C : World},Kp A B → Kp B C → Kp A C) (hKb : ∀ (W : World) (l : Nat) (o' : Obj),w.heap.size ≤ l → Kp W (W.putObj l o')) (hps : ∀ k x,(enc k x).size = ps.size)
  (I : List α → World → Prop) (Ix : Code → List α → World → Prop) (hI : OwnFrom w.heap.size I) (hIx : ∀ c,OwnFrom w.heap.size (Ix c)) (hM : Minds St I) (hMx : ∀ c,Minds St (Ix c)) (h0 : I [] w)
  (a1 : Nat → α → Act)
  (hassign : ∀ (l k : Nat) (x : α) (W : World) (K : Act → World → Prop),K (a1 k x) W →
   assign.wpIn (F.inRound l) (n - 1 - 1) P (Exit.then K (fun _ _ _ => False)) { tmps := (ps.zip (enc k x)).foldl (fun t (p,v) => t.setIfInBounds p v) a.tmps,defers := [] } W)
  (hbody : ∀ (l : Nat) (pre : List α) (x : α) (W : World),I pre W → pre ++ [x] <+: xs → body.wpIn (F.inRound l) (n - 1 - 1) P (ownPostK Kp I Ix (pre ++ [x]) W) (a1 pre.length x) W)
  (hdone : ∀ (D : Nat) (W : World),w.heap.size ≤ D → I xs W → W.heap[D]? = some (.deferred (some [])) → Q .normal { a with defers := { target := .collected D,args := #[] } :: a.defers } W)
  (hstop : ∀ (D : Nat) (c : Code) (pre : List α) (W : World),w.heap.size ≤ D → pre <+: xs → Ix c pre W → W.heap[D]? = some (.deferred (some [])) → c.wpIn F n P Q { a with defers := { target := .collected D,args := #[] } :: a.defers } W) :
  (Code.rangeFunc g ps assign body).wpIn F n P Q a w := by
 refine wpIn_rangeFunc fun fn hfn => ?_
 rw [hro]
 -- the two blocks of the loop: the calls that its rounds put off, and its record
 generalize hm : w.heap.size = m at *
 let rec0 : LoopState → Option Code → Loop := fun st pe => { state := st,pending := pe,fn,tmps := a.tmps,params := ps,assign,body,defers := m }
 obtain ⟨W1,hW1⟩ : ∃ W1,(w.alloc (.deferred (some []))).alloc (.loop (rec0 .ready none)) = W1 := ⟨_,rfl⟩
 have hL1 : W1.heap[m + 1]? = some (.loop (rec0 .ready none)) := by
  have := World.alloc_heap_new (w.alloc (.deferred (some []))) (.loop (rec0 .ready none))
  rw [World.size_alloc,hm] at this
  rw [← hW1];exact this
 have hK1 : W1.heap[m]? = some (.deferred (some [])) := by
  rw [← hW1,← hm]
  exact (Below.heap_alloc _ _ _ (by simp)).trans (World.alloc_heap_new w _)
 have hI1 : I [] W1 := by rw [← hW1];exact hI.alloc _ (hI.alloc _ h0)
 have hb1 : Below m w W1 := by
  rw [← hW1]
  exact ((Below.refl _ w).alloc (by omega) _).alloc (by simp;omega) _
 refine ⟨m + 1,[{ target := .collected m,args := #[] }],W1,{ target := .fn (.func gf) lb,args := #[.func (.yield (m + 1)) #[] #[]] },W1,gf,
  #[.func (.yield (m + 1)) #[] #[]] ++ lb,W1,?_,?_,?_,?_,fun _ => h1,?_⟩
 ·rw [← hW1]
  subst hm
  exact run_enterLoop_outer _ _ _ _ _
 ·simp only [resolve,hg]
  simp [go_sem]
 ·intro f' hf'
  simp [Target.leads] at hf'
  subst hf'
  exact hFg
 ·simp [invoke,go_sem,eg]
 ·refine (hseq (m + 1)
   (fun pre W => I pre W ∧ W.heap[m + 1]? = some (.loop (rec0 .ready none)) ∧ W.heap[m]? = some (.deferred (some [])))
   (fun pre W => ∃ c,Ix c pre W ∧ W.heap[m + 1]? = some (.loop (rec0 .done (some c))) ∧ W.heap[m]? = some (.deferred (some [])))
   W1 (by rw [hm];exact hb1)
   (fun s W v h => ⟨hM s W v h.1,(setCell_obj (by omega)).trans h.2.1,(setCell_obj (by omega)).trans h.2.2⟩)
   (fun s W v h => by
    obtain ⟨c,hc,hl,hk⟩ := h
    exact ⟨c,hMx c s W v hc,(setCell_obj (by omega)).trans hl,(setCell_obj (by omega)).trans hk⟩)
   ?_ ⟨hI1,hL1,hK1⟩).mono ?_
  ·rintro pre x W ⟨hi,hl,hk⟩ hpre
   have hlt : m + 1 < W.heap.size := (Array.getElem?_eq_some_iff.1 hl).1
   refine ⟨fn,_,assign,body,run_yield (P := P) (args := enc pre.length x) hl (hps _ x),roundIn_of_wpIn hfn (hassign _ _ x W _ ⟨_,run_beginRound hl rfl,?_⟩)⟩
   obtain ⟨V,hV⟩ : ∃ V,W.putObj (m + 1) (.loop { rec0 .ready none with state := .busy }) = V := ⟨_,rfl⟩
   have hlV : V.heap[m + 1]? = some (.loop { rec0 .ready none with state := .busy }) := by rw [← hV];exact World.putObj_heap_same hlt
   have hkV : V.heap[m]? = some (.deferred (some [])) := by rw [← hV];exact (World.putObj_heap_other (by omega)).trans hk
   have hKV : Kp W V := by rw [← hV];exact hKb _ _ _ (by omega)
   have hiV : I pre V := by rw [← hV];exact hI.putObj _ hi (by omega) hl rfl
   show body.wpIn (F.inRound (m + 1)) (n - 1 - 1) P _ _ (W.putObj (m + 1) (.loop { rec0 .ready none with state := .busy }))
   rw [hV]
   refine wpIn_mono (hbody _ pre x V hiV hpre) ?_
   have fin : ∀ (jump : Option Code) (W3 : World),KeepsOthers V W3 →
     (Instr.endRound (m + 1) jump).run P W3 = .ok (.bool jump.isNone) (W3.putObj (m + 1) (.loop (rec0 (if jump.isNone then .ready else .done) jump))) ∧
     W3.heap[m + 1]? = some (.loop { rec0 .ready none with state := .busy }) ∧
     (W3.putObj (m + 1) (.loop (rec0 (if jump.isNone then .ready else .done) jump))).heap[m + 1]? = some (.loop (rec0 (if jump.isNone then .ready else .done) jump)) ∧
     (W3.putObj (m + 1) (.loop (rec0 (if jump.isNone then .ready else .done) jump))).heap[m]? = some (.deferred (some [])) := fun jump W3 hk3 => by
    have hl3 := hk3.same _ _ hlV rfl
    exact ⟨run_endRound (P := P) jump hl3,hl3,World.putObj_heap_same (Array.getElem?_eq_some_iff.1 hl3).1,(World.putObj_heap_other (by omega)).trans (hk3.same _ _ hkV rfl)⟩
   rintro e a3 W3 hp
   cases e with
   | normal =>
    obtain ⟨hk3,hkp3,hi3⟩ := hp
    obtain ⟨hr,hl3,hl4,hk4⟩ := fin none W3 hk3
    exact ⟨_,_,hr,.inl ⟨rfl,⟨hI.putObj _ hi3 (by omega) hl3 rfl,hl4,hk4⟩,hKt (hKt hKV hkp3) (hKb _ _ _ (by omega))⟩⟩
   | ret =>
    obtain ⟨hk3,hi3⟩ := hp
    obtain ⟨hr,hl3,hl4,hk4⟩ := fin (some .ret) W3 hk3
    exact ⟨_,_,hr,.inr ⟨rfl,.ret,(hIx _).putObj _ hi3 (by omega) hl3 rfl,hl4,hk4⟩⟩
   | exit id =>
    obtain ⟨hk3,hi3⟩ := hp
    obtain ⟨hr,hl3,hl4,hk4⟩ := fin (some (.exit id)) W3 hk3
    exact ⟨_,_,hr,.inr ⟨rfl,.exit id,(hIx _).putObj _ hi3 (by omega) hl3 rfl,hl4,hk4⟩⟩
   | goto t =>
    obtain ⟨hk3,hi3⟩ := hp
    obtain ⟨hr,hl3,hl4,hk4⟩ := fin (some (.goto t)) W3 hk3
    exact ⟨_,_,hr,.inr ⟨rfl,.goto t,(hIx _).putObj _ hi3 (by omega) hl3 rfl,hl4,hk4⟩⟩
   | panic ch => exact hp.elim
   | outgrown => exact hp.elim
  ·rintro e W2 ⟨⟨v,rfl⟩,(⟨hi,hl,hk⟩ | ⟨pre,hpre,c,hi,hl,hk⟩)⟩
   ·exact ⟨none,_,run_endLoop (P := P) hl (by simp [rec0]),hdone m _ (by omega) (hI.putObj _ hi (by omega) hl rfl) ((World.putObj_heap_other (by omega)).trans hk)⟩
   ·exact ⟨some c,_,run_endLoop (P := P) hl (by simp [rec0]),hstop m c pre _ (by omega) hpre ((hIx c).putObj _ hi (by omega) hl rfl) ((World.putObj_heap_other (by omega)).trans hk)⟩
end Go.Proofs.YtpkmekdpmkfcdaaGreatDoor.Wd
namespace Go.Proofs.YtpkmekdpmkfcdaaGreatDoor.Pf
open Go.RowKit Go.Shelf Go.Proofs.YtpkmekdpmkfcdaaGreatDoor.Wd Go.Proofs.YtpkmekdpmkfcdaaGreatDoor.Px Go.Proofs.YtpkmekdpmkfcdaaGreatDoor.By Go.Proofs.YtpkmekdpmkfcdaaGreatDoor.En Go.Proofs.YtpkmekdpmkfcdaaGreatDoor.Pl
attribute [local go_sem] Oper.semAt_some
theorem index_spec (c : UInt8) : ∀ l : List UInt8,(Lib.indexByte l c = -1 ∧ c ∉ l) ∨ (∃ q : Nat,Lib.indexByte l c = q ∧ q < l.length ∧ l = l.take q ++ c :: l.drop (q + 1) ∧ c ∉ l.take q)
 | [] => .inl ⟨rfl,by simp⟩
 | b :: l => by
  by_cases hb : b = c
  ·subst hb
   exact .inr ⟨0,by simp [Lib.indexByte],by simp,by simp,by simp⟩
  ·have e : Lib.indexByte (b :: l) c = if Lib.indexByte l c == -1 then -1 else Lib.indexByte l c + 1 := by
    rw [Lib.indexByte,if_neg (by simpa using hb)]
   rcases index_spec c l with ⟨h1,h2⟩ | ⟨q,h1,h2,h3,h4⟩
   ·exact .inl ⟨by rw [e,h1];decide,by simp [h2,Ne.symm hb]⟩
   ·refine .inr ⟨q + 1,?_,by simp;omega,?_,?_⟩
    ·rw [e,h1,if_neg (by simp)]
     omega
    ·simp only [List.take_succ_cons,List.drop_succ_cons,List.cons_append]
     rw [← h3]
    ·simp [h4,Ne.symm hb]
theorem ext_take (r : List UInt8) (q : Nat) : (⟨r.toArray⟩ : ByteArray).extract 0 q = ⟨(r.take q).toArray⟩ := by
 apply ByteArray.ext
 simp
theorem ext_drop (r : List UInt8) (q m : Nat) (h : m = r.length) : (⟨r.toArray⟩ : ByteArray).extract q m = ⟨(r.drop q).toArray⟩ := by
 subst h
 apply ByteArray.ext
 simp [List.extract]
 rw [List.take_of_length_le (by simp)]
theorem split_more {sep : UInt8} {t r : List UInt8} {pre : List (List UInt8)} {q : Nat} (HS : split sep t = pre ++ split sep r) (hc : r = r.take q ++ sep :: r.drop (q + 1)) (hn : sep ∉ r.take q) : split sep t = (pre ++ [r.take q]) ++ split sep (r.drop (q + 1)) := by
 have h := split_cut sep (r.take q) (r.drop (q + 1)) hn
 rw [← hc] at h
 rw [HS,h]
 simp
theorem split_last {sep : UInt8} {t r : List UInt8} {pre : List (List UInt8)} (HS : split sep t = pre ++ split sep r) (hn : sep ∉ r) : split sep t = pre ++ [r] := by
 rw [HS,split_one sep r hn]
/-- the two blocks of the iterator lie as they lay -/
def Two (tB sB : Nat) (W W' : World) : Prop := W'.heap[tB]? = W.heap[tB]? ∧ W'.heap[sB]? = W.heap[sB]?
theorem Two.trans {tB sB : Nat} {A B C : World} (h : Two tB sB A B) (k : Two tB sB B C) : Two tB sB A C := ⟨k.1.trans h.1,k.2.trans h.2⟩
theorem index_as {r : List UInt8} {sep : UInt8} {q : Int} (h : Hid (Lib.indexByte r sep = q)) (w : World) :
  Calls Tryz.prog 257 #[.string ⟨r.toArray⟩,.int .u8 (sep.toNat : Int)] w fun e w' => e = .returned (.int .i64 q) ∧ w' = w := by
 have := Tryz.strings_IndexByte ⟨r.toArray⟩ (sep.toNat : Int) w
 rw [show ((sep.toNat : Int).toNat.toUInt8) = sep by simp] at this
 rw [show (⟨r.toArray⟩ : ByteArray).data.toList = r from rfl,h.out] at this
 exact this
set_option maxRecDepth 100000 in
set_option maxHeartbeats 4000000 in
theorem parts_iter (n tB sB : Nat) (hn1 : 1 ≤ n) (hne : sB ≠ tB) (sep : UInt8) (t : List UInt8) (ht : t.length ≤ 140737488355328) (w : World) (htB : tB < w.heap.size) (hsB : sB < w.heap.size)
  (g0 : w.cell? ⟨tB,0,none⟩ = some (.string ⟨t.toArray⟩)) (gf : w.frozen? ⟨tB,0,none⟩ = false) (g1 : w.cell? ⟨sB,0,none⟩ = some (.int .u8 (sep.toNat : Int))) :
  Iter Fence.wide n Tryz.prog 278 #[.pointer (some ⟨tB,0,none⟩),.pointer (some ⟨sB,0,none⟩)] (fun k (x : List UInt8) => #[.int .i64 (k : Int),.string ⟨x.toArray⟩]) (Two tB sB) tB (split sep t) w := fun l J Jx W hW hJ hJx hY h0 => by
 have k0 := (hW.cell (p := ⟨tB,0,none⟩) htB).trans g0
 have k1 := (hW.cell (p := ⟨sB,0,none⟩) hsB).trans g1
 have kf := (hW.frozen (p := ⟨tB,0,none⟩) htB).trans gf
 have hF : Fence.wide.fn 257 := trivial
 refine callsIn_of_wp Tryz.func278 rfl trivial ?_ rfl
 simp only [Tryz.ntmps278,List.size_toArray,List.length_cons,List.length_nil,Nat.reduceAdd,Nat.reduceSub,Array.replicate_succ,Array.replicate_zero,List.push_toArray,List.append_toArray,List.nil_append,List.cons_append]
 gi_wp2
 gi_loopw [4] (fun v wr => ∃ (k : Nat) (pre : List (List UInt8)) (r : List UInt8),v = .int .i64 k ∧ Hid (pre.length = k) ∧ Hid (split sep t = pre ++ split sep r) ∧ r.length ≤ t.length ∧ k + r.length ≤ t.length ∧ wr.cell? ⟨tB,0,none⟩ = some (.string ⟨r.toArray⟩) ∧ wr.frozen? ⟨tB,0,none⟩ = false ∧ wr.cell? ⟨sB,0,none⟩ = some (.int .u8 (sep.toNat : Int)) ∧ J pre wr) (fun v _ => (split sep t).length - (intOf v).toNat)
 case atStart => exact ⟨0,[],t,rfl,rfl,rfl,Nat.le_refl _,by omega,k0,kf,k1,h0⟩
 case round =>
  obtain ⟨k,pre,r,rfl,HP,HS,hr,hk,c0,cf,c1,hj⟩ := hrel
  clear k0 k1 kf
  rcases index_spec sep r with ⟨hi,hn⟩ | ⟨q,hi,hq,hcut,hn⟩
  ·have HI := Lib.hid hi
   have HL := Lib.hid (split_last HS.out hn)
   clear hi hn
   obtain ⟨fn,tmps,assign,body,hy,hR⟩ := hY pre r wr hj (by rw [HL.out];exact List.prefix_refl _)
   rw [HP.out] at hy
   gi_wp2_with (gi_at_call 257;refine (callsIn_wide.2 (index_as HI _)).mono ?_;rintro e w' ⟨rfl,rfl⟩)
   refine hR.mono ?_
   rintro e W3 (⟨rfl,hJ3,hk3⟩ | ⟨rfl,hJx3⟩)
   ·gi_wp2
    refine bodyPost_ret (results_none rfl _ _ _) rfl ?_
    exact ⟨⟨_,rfl⟩,.inl (by rw [HL.out];exact hJ3)⟩
   ·gi_wp2
    refine bodyPost_ret (results_none rfl _ _ _) rfl ?_
    exact ⟨⟨_,rfl⟩,.inr ⟨_,by rw [HL.out];exact List.prefix_refl _,hJx3⟩⟩
  ·have HI := Lib.hid hi
   have HC := Lib.hid hcut
   have HN := Lib.hid hn
   clear hi hcut hn
   have i1 : (q : Int) < (r.length : Int) := by omega
   have i2 : (r.length : Int) ≤ 140737488355328 := by omega
   have HM := Lib.hid (split_more HS.out HC.out HN.out)
   obtain ⟨fn,tmps,assign,body,hy,hR⟩ := hY pre (r.take q) wr hj (by rw [HM.out];exact ⟨_,rfl⟩)
   rw [HP.out,← ext_take] at hy
   gi_wp2_with (gi_at_call 257;refine (callsIn_wide.2 (index_as HI _)).mono ?_;rintro e w' ⟨rfl,rfl⟩)
   refine hR.mono ?_
   rintro e W3 (⟨rfl,hJ3,hk3⟩ | ⟨rfl,hJx3⟩)
   ·have d0 := (World.cell?_of_block (a := ⟨tB,0,none⟩) hk3.1).trans c0
    have df := (World.frozen?_of_block (a := ⟨tB,0,none⟩) hk3.1).trans cf
    have d1 := (World.cell?_of_block (a := ⟨sB,0,none⟩) hk3.2).trans c1
    have i3 : (q : Int) + 1 ≤ (r.length : Int) := by omega
    clear hk3 c0 cf c1
    gi_wp2
    rw [ext_drop r (q + 1) r.length rfl]
    refine ⟨⟨k + 1,pre ++ [r.take q],r.drop (q + 1),by go_num,Lib.hid (by rw [List.length_append,HP.out];rfl),HM,?_,?_,?_,?_,?_,hJ _ _ _ hJ3⟩,?_⟩
    ·simp;omega
    ·simp;omega
    ·exact World.cell?_setCell_same' _ _ _ (by rw [d0];rfl)
    ·rw [World.frozen?_setCell];exact df
    ·exact (World.cell?_of_block (setCell_obj hne)).trans d1
    ·have := congrArg List.length HM.out
     have := HP.out
     simp [intOf]
     simp at *
     omega
   ·gi_wp2
    refine bodyPost_ret (results_none rfl _ _ _) rfl ?_
    exact ⟨⟨_,rfl⟩,.inr ⟨_,by rw [HM.out];exact ⟨_,rfl⟩,hJx3⟩⟩
end Go.Proofs.YtpkmekdpmkfcdaaGreatDoor.Pf
namespace Go.Proofs.YtpkmekdpmkfcdaaGreatDoor.Wd
open Go.RowKit
variable {P : Program} {md : Region.Mode} {ops : Array Oper} {Q : Exit → Act → World → Prop} {n l : Nat}
def calmOp (o : Oper) : Bool := match o.op with
 | .defer _ => false
 | _ => true
theorem oper_round {o : Oper} {a : Act} {w : World} {K : Act → World → Prop} (hd : calmOp o = true) (h : o.wp P a w K Q) : o.wpIn (Fence.wide.inRound l) n P a w K Q := by
 refine ⟨fun _ _ => trivial,?_⟩
 rw [Oper.semAt_eq _ _ _ (fun c e => by unfold calmOp at hd;rw [e] at hd;cases hd)]
 unfold Oper.wp at h
 generalize (execOp a.eval o).run P w = r at h
 match r,h with
 | .ok (.value v) w',h => exact h
 | .ok .skip w',h => exact h
 | .ok (.defer d) w',h => exact h
 | .ok (.enter f args) w',h => exact ⟨(fun h0 => by simp [Fence.wide] at h0),CallsIn.inRound l (callsIn_wide.2 h)⟩
 | .ok (.row row args) w',h => exact ⟨(fun h0 => by simp [Fence.wide] at h0),fun c cs _ => by
   obtain ⟨v,w2,r,s⟩ := h c cs
   exact ⟨v,w2,r,stepsIn_wide.2 s⟩⟩
 | .halt (.panic v) w',h => exact h
theorem any_round (hd : ops.all calmOp = true) (hQ : ¬ LetsOut Q) : ∀ (fuel : Nat) (listed : Array Bool) (a : Act) (w : World),wpAny P md ops Q fuel listed a w → wpAnyIn (Fence.wide.inRound l) n P md ops Q fuel listed a w
 | 0,_,_,_,h => h
 | fuel + 1,listed,a,w,h => ⟨h.1,fun i hi => by
  have h2 := h.2 i hi
  unfold wpOp at h2
  unfold wpOpIn
  cases ho : ops[i]? with
  | none =>
   simp only [ho] at h2 ⊢
   exact any_round hd hQ fuel _ a w h2
  | some o =>
   simp only [ho] at h2 ⊢
   have hc : calmOp o = true := by
    obtain ⟨hlt,he⟩ := Array.getElem?_eq_some_iff.1 ho
    have := Array.all_eq_true.1 hd i hlt
    rwa [he] at this
   split
   ·rename_i hw
    rw [if_pos hw] at h2
    rcases h2 with h2 | h2
    ·exact oper_round hc (Oper.wp_mono (fun a w h => any_round hd hQ fuel _ a w h) h2)
    ·exact absurd h2.2 hQ
   ·rename_i hw
    rw [if_neg hw] at h2
    exact ⟨fun _ _ => trivial,any_round hd hQ fuel _ _ w h2⟩⟩
theorem round_after {id : Nat} {a : Act} {w : World} {ol : List Oper} (hm : P.follows .mixedOrders = true) (hd : ol.toArray.all calmOp = true) (hQ : ¬ LetsOut Q) (hB : Region.lexB .any ol.toArray = true)
  (h : wpQuiet P ol.toArray (fun w' => ∃ x : After w,w' = x.w) (fun a' => ∀ w',(∃ x : After w,w' = x.w) → Q .normal a' w') ol a) : (Code.region id ol.toArray true).wpIn (Fence.wide.inRound l) n P Q a w := by
 simp only [Region.lexB,Bool.and_eq_true] at hB
 refine wpIn_region_any hm (any_round hd hQ _ _ _ _ (wpAny_of_quiet (C := fun w' => ∃ x : After w,w' = x.w) (Q := fun a' => ∀ w',(∃ x : After w,w' = x.w) → Q .normal a' w') (fun _ w' hw' h => h w' hw') _ _ _ _ ⟨⟨_,(Below.refl _ w).drew⟩,rfl⟩ ?_))
 have := wpAnyQ_lex (P := P) (C := fun w' => ∃ x : After w,w' = x.w) (md := .any) hB.1 ol.toArray.toList 0 (Array.replicate ol.toArray.size false) a (by simp) (by simpa using hB.2) (by simpa using h)
 simpa using this
theorem round_tail {id : Nat} {a : Act} {w : World} {ol : List Oper} (m : Nat) (hm : P.follows .mixedOrders = true) (hd : ol.toArray.all calmOp = true) (hQ : ¬ LetsOut Q) (hB : Region.lexTailB .any ol.toArray m = true)
  (h : wpStill P ol.toArray w.drew (fun a' => wpList P ol.toArray Q (ol.drop m) a' w.drew) (ol.take m) a) : (Code.region id ol.toArray true).wpIn (Fence.wide.inRound l) n P Q a w := by
 simp only [Region.lexTailB,Bool.and_eq_true,decide_eq_true_eq] at hB
 obtain ⟨⟨⟨⟨hsel,hn⟩,hs⟩,hc⟩,hlex⟩ := hB
 have htl : (ol.take m).length = m := by simp at hn ⊢;omega
 have hdl : (ol.drop m).length = ol.toArray.size - m := by simp
 have H := wpAnyL_lex (md := .any) (g := ol.toArray.size - m) hsel hs hc hn (ol.take m) 0 (Array.replicate ol.toArray.size false) a (fun j hj => by
  rw [htl] at hj
  simp [hj]) (by simpa using htl) ⟨by simp,fun j oj _ hl => (by rw [getD_replicate_false] at hl;cases hl),fun t _ ht => getD_in (by simpa using ht) (getD_replicate_false _ _)⟩ (by rw [htl];exact hlex) h
 have H2 := wpAny_of_head (Q' := Q) (g := ol.toArray.size - m) (fun listed a' hL => by
  have := wpAny_of_seq (md := .any) (Q' := Q) (ol.drop m) m listed a' w.drew (fun j => by simp [List.getElem?_drop]) (by rw [hdl];exact hL.1) hL.2
  rwa [hdl] at this) _ _ _ H
 rw [htl,show m + (ol.toArray.size - m) = ol.toArray.size by omega] at H2
 exact wpIn_region_any hm (any_round hd hQ _ _ _ _ H2)
end Go.Proofs.YtpkmekdpmkfcdaaGreatDoor.Wd
