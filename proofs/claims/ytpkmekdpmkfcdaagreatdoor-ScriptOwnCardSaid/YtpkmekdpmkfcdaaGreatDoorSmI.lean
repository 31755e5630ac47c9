/- What is read of a text is no longer than the text. Contract: the little script is written and read. Contract: 'first' of the statements on scripts returns true. -/
import Derived.Test.YtpkmekdpmkfcdaaGreatDoorSmG
import Derived.Test.YtpkmekdpmkfcdaaGreatDoorSmH
import Derived.Test.YtpkmekdpmkfcdaaGreatDoorScM
namespace Go.Proofs.YtpkmekdpmkfcdaaGreatDoor.Sr
set_option linter.unusedVariables false
set_option linter.unusedSimpArgs false
open Go.RowKit Go.Proofs.YtpkmekdpmkfcdaaGreatDoor.Wd Go.Proofs.YtpkmekdpmkfcdaaGreatDoor.Px Go.Proofs.YtpkmekdpmkfcdaaGreatDoor.By Go.Proofs.YtpkmekdpmkfcdaaGreatDoor.En Go.Proofs.YtpkmekdpmkfcdaaGreatDoor.Pl Go.Proofs.YtpkmekdpmkfcdaaGreatDoor.Pf Go.Proofs.YtpkmekdpmkfcdaaGreatDoor.Sc
theorem hexP_len : ∀ (l b : List UInt8),hexP l = some b → b.length ≤ l.length
 | [],b,h => by rw [hexP] at h;injection h with h;subst h;simp
 | [_],b,h => by rw [hexP] at h;cases h
 | x :: y :: r,b,h => by
  rw [hexP] at h
  split at h
  ·cases e : hexP r with
   | none => rw [e] at h;cases h
   | some c =>
    rw [e] at h
    simp only [Option.map_some,Option.some.injEq] at h
    subst h
    have := hexP_len r c e
    simp only [List.length_cons];omega
  ·cases h
theorem hexW_len {l b : List UInt8} (h : hexW l = some b) : b.length ≤ l.length := by
 unfold hexW at h
 split at h
 ·injection h with h;subst h;simp
 ·exact hexP_len l b h
theorem bitP_len : ∀ (l : List UInt8) (b : List Bool),bitP l = some b → b.length ≤ l.length
 | [],b,h => by rw [bitP] at h;injection h with h;subst h;simp
 | c :: r,b,h => by
  rw [bitP] at h
  split at h
  ·cases e : bitP r with
   | none => rw [e] at h;cases h
   | some d =>
    rw [e] at h
    simp only [Option.map_some,Option.some.injEq] at h
    subst h
    have := bitP_len r d e
    simp only [List.length_cons];omega
  ·cases h
theorem bitW_len {l : List UInt8} {b : List Bool} (h : bitW l = some b) : b.length ≤ l.length := by
 unfold bitW at h
 split at h
 ·injection h with h;subst h;simp
 ·exact bitP_len l b h
theorem flts_len (n : Nat) : ∀ (ws : List (List UInt8)) (l : List (Int × Int)),ws.length ≤ n → flts ws = .ok l → l.length ≤ ws.length
 | [],l,_,h => by rw [flts] at h;injection h with h;subst h;simp;all_goals simp
 | [_],l,_,h => by rw [flts] at h;injection h with h;subst h;simp;all_goals simp
 | k :: x :: r,l,hn,h => by
  match n,hn with
  | m + 2,hn =>
   rw [flts] at h
   split at h
   ·cases h
   ·split at h
    ·cases h
    ·split at h
     ·cases h
     ·rename_i l2 e
      injection h with h
      subst h
      have := flts_len m r l2 (by simp at hn;omega) e
      simp only [List.length_cons];omega
theorem splW_len : ∀ (l cur : List (List UInt8)),(splW cur l).length ≤ l.length + 1
 | [],cur => by rw [splW];simp
 | w :: r,cur => by
  rw [splW]
  split
  ·have := splW_len r [];simp only [List.length_cons];omega
  ·have := splW_len r (cur ++ [w]);simp only [List.length_cons];omega
theorem splW_mem : ∀ (l cur : List (List UInt8)),∀ a ∈ splW cur l,∀ w ∈ a,w ∈ cur ∨ w ∈ l
 | [],cur,a,ha,w,hw => by
  rw [splW] at ha
  rw [List.mem_singleton.1 ha] at hw
  exact .inl hw
 | x :: r,cur,a,ha,w,hw => by
  rw [splW] at ha
  split at ha
  ·rcases List.mem_cons.1 ha with rfl | ha
   ·exact .inl hw
   ·rcases splW_mem r [] a ha w hw with h | h
    ·simp at h
    ·exact .inr (List.mem_cons_of_mem _ h)
  ·rcases splW_mem r (cur ++ [x]) a ha w hw with h | h
   ·rcases List.mem_append.1 h with h | h
    ·exact .inl h
    ·rw [List.mem_singleton.1 h];exact .inr (by simp)
   ·exact .inr (List.mem_cons_of_mem _ h)
theorem chgFld_key {c c' : Chg} {x : UInt8} {w : List UInt8} {B : Nat} (h : chgFld c x w = .ok c') (hc : c.key.length ≤ B) (hw : w.length ≤ B) : c'.key.length ≤ B := by
 unfold chgFld at h
 split at h
 ·split at h
  ·injection h with h;subst h;exact hc
  ·cases h
 ·split at h
  ·split at h
   ·injection h with h;subst h;exact hc
   ·cases h
  ·split at h
   ·split at h
    ·rename_i b e
     injection h with h;subst h
     exact Nat.le_trans (hexW_len e) hw
    ·cases h
   ·split at h
    ·injection h with h;subst h;exact hc
    ·cases h
theorem chgFlds_key {B : Nat} (f : List UInt8) : ∀ (c c' : Chg) (ws : List (List UInt8)),chgFlds c f ws = .ok c' → c.key.length ≤ B → (∀ w ∈ ws,w.length ≤ B) → c'.key.length ≤ B := by
 induction f with
 | nil => intro c c' ws h hc _;simp only [chgFlds] at h;injection h with h;subst h;exact hc
 | cons x xs ih =>
  intro c c' ws h hc hw
  cases ws with
  | nil => simp only [chgFlds] at h;injection h with h;subst h;exact hc
  | cons w ws =>
   obtain ⟨c1,h1,h2⟩ := flds_ok h
   exact ih c1 c' ws h2 (chgFld_key h1 hc (hw w (by simp))) (fun u hu => hw u (by simp [hu]))
theorem chg_lim {ws : List (List UInt8)} {c : Chg} (h : chg ws = .ok c) (hw : ∀ w ∈ ws,w.length ≤ 2000000) : Lim c := by
 have hg := (chg_good h).1
 refine ⟨?_,hg.h,hg.l⟩
 cases ws with
 | nil => rw [chg] at h;cases h
 | cons a r =>
  rw [chg_cons] at h
  split at h
  ·cases h
  ·split at h
   ·cases h
   ·exact chgFlds_key _ _ _ _ h (by simp [chg0]) (fun u hu => hw u (by simp [hu]))
theorem chgs_lim {ws : List (List UInt8)} {l : List Chg} (h : chgs ws = .ok l) (hw : ∀ w ∈ ws,w.length ≤ 2000000) : (∀ c ∈ l,Lim c) ∧ l.length ≤ ws.length + 1 := by
 unfold chgs at h
 split at h
 ·injection h with h;subst h;simp
 ·refine ⟨fun c hc => ?_,?_⟩
  ·obtain ⟨a,ha,hca⟩ := mapE_mem h c hc
   exact chg_lim hca fun w hwa => by
    rcases splW_mem ws [] a ha w hwa with h1 | h1
    ·simp at h1
    ·exact hw w h1
  ·rw [(mapE_ok h).1];exact splW_len ws []
theorem headD_le {ws : List (List UInt8)} (hw : ∀ w ∈ ws,w.length ≤ 2000000) : (ws.headD []).length ≤ 2000000 := by
 cases ws with
 | nil => simp
 | cons a r => exact hw a (by simp)
theorem fld_lim {o o' : Opp} {c : UInt8} {ws : List (List UInt8)} (h : fld o c ws = .ok o') (hL : LimO o) (hw : ∀ w ∈ ws,w.length ≤ 2000000) (hl : ws.length ≤ 1999999) (hsec : o'.sec ≤ 9223372036854775807) : LimO o' := by
 obtain ⟨l0,l1,l2,l3,l4,l5⟩ := hL
 have hh := headD_le hw
 unfold fld at h
 split at h
 ·split at h
  ·rename_i b e
   injection h with h;subst h
   exact ⟨l0,Nat.le_trans (hexW_len e) hh,l2,l3,l4,l5⟩
  ·cases h
 ·split at h
  ·split at h
   ·injection h with h;subst h
    exact ⟨hsec,l1,l2,l3,l4,l5⟩
   ·cases h
  ·split at h
   ·split at h
    ·rename_i b e
     injection h with h;subst h
     exact ⟨l0,l1,l2,l3,Nat.le_trans (bitW_len e) hh,l5⟩
    ·cases h
   ·split at h
    ·split at h
     ·rename_i l e
      injection h with h;subst h
      exact ⟨l0,l1,l2,Nat.le_trans (flts_len _ ws l (Nat.le_refl _) e) (by omega),l4,l5⟩
     ·cases h
    ·split at h
     ·split at h
      ·rename_i l e
       injection h with h;subst h
       obtain ⟨g1,g2⟩ := chgs_lim e hw
       exact ⟨l0,l1,by simp only;omega,l3,l4,g1⟩
      ·cases h
     ·split at h
      ·injection h with h;subst h
       unfold setN
       repeat' split
       all_goals exact ⟨l0,l1,l2,l3,l4,l5⟩
      ·cases h
theorem fld_sec {o o' : Opp} {c : UInt8} {ws : List (List UInt8)} (h : fld o c ws = .ok o') (hs : o.sec ≤ 9223372036854775807) : o'.sec ≤ 9223372036854775807 := by
 unfold fld at h
 split at h
 ·split at h
  ·injection h with h;subst h;exact hs
  ·cases h
 ·split at h
  ·split at h
   ·rename_i p e
    injection h with h;subst h
    exact (prs_some (s := p.1) (n := p.2) e).2.1
   ·cases h
  ·split at h
   ·split at h
    ·injection h with h;subst h;exact hs
    ·cases h
   ·split at h
    ·split at h
     ·injection h with h;subst h;exact hs
     ·cases h
    ·split at h
     ·split at h
      ·injection h with h;subst h;exact hs
      ·cases h
     ·split at h
      ·injection h with h;subst h
       unfold setN
       repeat' split
       all_goals exact hs
      ·cases h
theorem flds_lim (f : List UInt8) : ∀ (o o' : Opp) (ws : List (List UInt8)),flds o f ws = .ok o' → LimO o → (∀ w ∈ ws,w.length ≤ 2000000) → ws.length ≤ 1999999 → LimO o' := by
 induction f with
 | nil => intro o o' ws h hL _ _;rw [flds] at h;injection h with h;subst h;exact hL
 | cons c cs ih =>
  intro o o' ws h hL hw hl
  rw [flds] at h
  split at h
  ·rename_i o1 e
   exact ih o1 o' ws.tail h (fld_lim e hL hw hl (fld_sec e hL.sec)) (fun u hu => hw u (List.mem_of_mem_tail hu)) (by simp;omega)
  ·cases h
theorem step_lim {ws : List (List UInt8)} {o : Opp} (h : stepS ws = .ok o) (hw : ∀ w ∈ ws,w.length ≤ 2000000) (hl : ws.length ≤ 1999999) : LimO o := by
 cases ws with
 | nil => rw [stepS] at h;cases h
 | cons a r =>
  rw [stepS_cons] at h
  split at h
  ·cases h
  ·split at h
   ·cases h
   ·exact flds_lim _ _ _ _ h ⟨by simp [opp0],by simp [opp0],by simp [opp0],by simp [opp0],by simp [opp0],by simp [opp0]⟩ (fun u hu => hw u (by simp [hu])) (by simp at hl;omega)
theorem line_lim {st st' : Option Int × List Opp} {line : List UInt8} (h : lineS st line = .ok st') (hl : line.length ≤ 1048576) (hs : ∀ o ∈ st.2,LimO o) : ∀ o ∈ st'.2,LimO o := by
 unfold lineS at h
 split at h
 ·cases h
 ·injection h with h;subst h;exact hs
 ·rename_i w ws e
  have h1 := wds_le line.length line [] (w :: ws) (by simp) e
  have h2 := wds_len line [] (w :: ws) e
  split at h
  ·split at h
   ·cases h
   ·injection h with h;subst h;exact hs
  ·split at h
   ·cases h
   ·split at h
    ·cases h
    ·rename_i o e2
     injection h with h;subst h
     intro p hp
     rcases List.mem_append.1 hp with hp | hp
     ·exact hs p hp
     ·rw [List.mem_singleton.1 hp]
      exact step_lim e2 (fun u hu => by have := h1 u hu;omega) (by omega)
theorem goL_lim : ∀ (ls : List (List UInt8)) (st st' : Option Int × List Opp) (no : Nat),goL st no ls = .ok st' → (∀ a ∈ ls,a.length ≤ 1048576) → (∀ o ∈ st.2,LimO o) → ∀ o ∈ st'.2,LimO o
 | [],st,st',no,h,_,hs => by rw [goL] at h;injection h with h;subst h;exact hs
 | l :: r,st,st',no,h,hl,hs => by
  rw [goL] at h
  split at h
  ·cases h
  ·rename_i s1 e
   exact goL_lim r s1 st' _ h (fun a ha => hl a (by simp [ha])) (line_lim e (hl l (by simp)) hs)
theorem split_le (s : UInt8) : ∀ t : List UInt8,∀ a ∈ split s t,a.length ≤ t.length
 | [],a,ha => by
  rw [split] at ha
  rw [List.mem_singleton.1 ha];simp
 | c :: r,a,ha => by
  have ih := split_le s r
  rw [split] at ha
  split at ha
  ·rcases List.mem_cons.1 ha with rfl | ha
   ·simp
   ·have := ih a ha;simp only [List.length_cons];omega
  ·split at ha
   ·rw [List.mem_singleton.1 ha];simp
   ·rename_i b bs e
    rcases List.mem_cons.1 ha with rfl | ha
    ·have := ih b (by rw [e];simp);simp only [List.length_cons];omega
    ·have := ih a (by rw [e];simp [ha]);simp only [List.length_cons];omega
theorem parse_lim {t : List UInt8} {n : Int} {l : List Opp} (h : parseS t = .ok (n,l)) : (∀ o ∈ l,LimO o) ∧ l.length ≤ 2000 := by
 refine ⟨?_,(parse_fair h).2.1⟩
 unfold parseS at h
 split at h
 ·cases h
 ·rename_i hs
  split at h
  ·cases h
  ·cases h
  ·rename_i n2 l2 e
   injection h with h
   injection h with h1 h2
   subst h2
   exact goL_lim _ _ _ _ e (fun a ha => Nat.le_trans (split_le 10 t a ha) (by omega)) (by simp)
end Go.Proofs.YtpkmekdpmkfcdaaGreatDoor.Sr
namespace Go.Proofs.YtpkmekdpmkfcdaaGreatDoor.Sr
set_option linter.unusedVariables false
set_option linter.unusedSimpArgs false
open Go.RowKit Go.Proofs.YtpkmekdpmkfcdaaGreatDoor.Wd Go.Proofs.YtpkmekdpmkfcdaaGreatDoor.Px Go.Proofs.YtpkmekdpmkfcdaaGreatDoor.By Go.Proofs.YtpkmekdpmkfcdaaGreatDoor.En Go.Proofs.YtpkmekdpmkfcdaaGreatDoor.Pl Go.Proofs.YtpkmekdpmkfcdaaGreatDoor.Pf Go.Proofs.YtpkmekdpmkfcdaaGreatDoor.Sc
theorem Blk.other {R g j : Nat} {vs : Array Value} {t : TypeId} {W : World} (h : Blk g vs t W) (hne : g ≠ R) (v : Value) : Blk g vs t (W.setCell ⟨R,j,none⟩ v) := (Below.heap_setCell W ⟨R,j,none⟩ v g hne).trans h
theorem Shows.of_blk {α : Type} {f : α → Value} {l : List α} {g : Nat} {arr : Array Value} {t : TypeId} {W : World} (hB : Blk g arr t W) (ha : arr.toList = l.map f) : Shows f W W.heap.size (some ⟨g,0,none⟩) l := fun hl => by
 refine ⟨g,0,rfl,hB.lt,fun i x hx => ?_⟩
 rw [Nat.zero_add,blk_cell hB,← Array.getElem?_toList,ha,List.getElem?_map,hx];rfl
theorem ShC.of_blk {l : List Chg} {kvs : List Value} {g : Nat} {arr : Array Value} {t : TypeId} {W : World} (hB : Blk g arr t W) (ha : arr.toList = cellsC l kvs) (hlen : kvs.length = l.length)
  (hk : ∀ (i : Nat) c kv,l[i]? = some c → kvs[i]? = some kv → ∃ Ak ck,kv = .slice Ak c.key.length ck ∧ c.key.length ≤ ck ∧ Shows cel W W.heap.size Ak c.key) : ShC W (some ⟨g,0,none⟩) l kvs :=
 ⟨hlen,fun _ => ⟨g,0,rfl,hB.lt,fun i c kv hc hkv j u hu => by
  have hj : j < 8 := by have := (Array.getElem?_eq_some_iff.1 hu).1;simpa [chC] using this
  rw [Nat.add_assoc,Nat.zero_add,blk_cell hB,← Array.getElem?_toList,ha]
  unfold cellsC
  rw [zip_flat (fun c kv => (chC c kv).toList) 8 (fun _ _ => rfl) l kvs i c kv j hc hkv hj,Array.getElem?_toList]
  exact hu⟩,hk⟩
theorem ShF.of_blk {l : List (Int × Int)} {g : Nat} {arr : Array Value} {t : TypeId} {W : World} (hB : Blk g arr t W) (ha : arr.toList = l.flatMap fltC) : ShF W (some ⟨g,0,none⟩) l := fun _ => by
 refine ⟨g,0,rfl,hB.lt,fun i f hf => ⟨?_,?_⟩⟩
 ·rw [Nat.zero_add,blk_cell hB,← Array.getElem?_toList,ha]
  have := map_flat fltC 2 (fun _ => rfl) l i f 0 hf (by omega)
  rw [Nat.add_zero] at this
  rw [this];rfl
 ·rw [Nat.zero_add,blk_cell hB,← Array.getElem?_toList,ha,map_flat fltC 2 (fun _ => rfl) l i f 1 hf (by omega)];rfl
theorem ShO.of_blk {l : List Opp} {vs : List Opv} {g : Nat} {arr : Array Value} {t : TypeId} {W : World} (hB : Blk g arr t W) (ha : arr.toList = cellsO l vs) (hlen : vs.length = l.length)
  (hk : ∀ (i : Nat) p x,l[i]? = some p → vs[i]? = some x → ShOp W p x.dv x.cv x.fv x.bv x.kvs) : ShO W (some ⟨g,0,none⟩) l vs :=
 ⟨hlen,fun _ => ⟨g,0,rfl,hB.lt,fun i p x hp hx j u hu => by
  have hj : j < 14 := by have := (Array.getElem?_eq_some_iff.1 hu).1;simpa [opC] using this
  rw [Nat.add_assoc,Nat.zero_add,blk_cell hB,← Array.getElem?_toList,ha]
  unfold cellsO
  rw [zip_flat (fun o (x : Opv) => (opC o x.dv x.cv x.fv x.bv).toList) 14 (fun _ _ => rfl) l vs i p x j hp hx hj,Array.getElem?_toList]
  exact hu⟩,hk⟩
theorem none_d (W : World) : ∃ A c,nl = .slice A ([] : List UInt8).length c ∧ ([] : List UInt8).length ≤ c ∧ Shows cel W W.heap.size A ([] : List UInt8) := ⟨none,0,rfl,Nat.le_refl _,Shows.nil⟩
theorem none_c (W : World) : ∃ A c,nl = .slice A ([] : List Chg).length c ∧ ([] : List Chg).length ≤ c ∧ ShC W A ([] : List Chg) [] := ⟨none,0,rfl,Nat.le_refl _,rfl,fun h => absurd h (by simp),fun i c kv h => by simp at h⟩
theorem none_f (W : World) : ∃ A c,nl = .slice A ([] : List (Int × Int)).length c ∧ ([] : List (Int × Int)).length ≤ c ∧ ShF W A [] := ⟨none,0,rfl,Nat.le_refl _,fun h => absurd h (by simp)⟩
theorem none_b (W : World) : ∃ A c,nl = .slice A ([] : List Bool).length c ∧ ([] : List Bool).length ≤ c ∧ Shows Value.bool W W.heap.size A ([] : List Bool) := ⟨none,0,rfl,Nat.le_refl _,Shows.nil⟩
theorem little_shows {W : World} {b2 b3 b4 b5 b6 b7 : Nat} {t2 t3 t4 t5 t6 t7 : TypeId} (h2 : Blk b2 #[.int .u8 160,.int .u8 1] t2 W) (h3 : Blk b3 #[.int .i64 1,.int .i64 1,.int .i64 1,.slice (some ⟨b2,0,none⟩) 2 2,.int .i64 0,.int .u64 0,.int .u64 0,.int .i64 0,.int .i64 4,.int .i64 1,.int .i64 0,.slice none 0 0,.int .i64 4,.int .u64 0,.int .u64 167772160,.int .i64 8] t3 W) (h4 : Blk b4 #[.int .u8 171] t4 W) (h5 : Blk b5 #[.int .i64 3,.int .i64 1,.int .i64 5,.int .i64 2] t5 W) (h6 : Blk b6 #[.bool false,.bool true] t6 W) (h7 : Blk b7 #[.int .i64 1,.int .i64 1,.int .i64 0,.int .i64 0,.int .i64 0,.int .i64 0,.slice none 0 0,.int .i64 0,.int .i64 0,.int .i64 0,.int .i64 0,.slice (some ⟨b3,0,none⟩) 2 2,.slice none 0 0,.slice none 0 0,.int .i64 2,.int .i64 0,.int .i64 0,.int .i64 0,.int .i64 0,.int .i64 0,.slice (some ⟨b4,0,none⟩) 1 1,.int .i64 0,.int .i64 0,.int .i64 0,.int .i64 0,.slice none 0 0,.slice none 0 0,.slice none 0 0,.int .i64 10,.int .i64 0,.int .i64 0,.int .i64 0,.int .i64 0,.int .i64 0,.slice none 0 0,.int .i64 0,.int .i64 0,.int .i64 0,.int .i64 0,.slice none 0 0,.slice (some ⟨b5,0,none⟩) 2 2,.slice none 0 0,.int .i64 11,.int .i64 1,.int .i64 0,.int .i64 0,.int .i64 0,.int .i64 0,.slice none 0 0,.int .i64 0,.int .i64 0,.int .i64 0,.int .i64 0,.slice none 0 0,.slice none 0 0,.slice (some ⟨b6,0,none⟩) 2 2] t7 W) :
  ShO W (some ⟨b7,0,none⟩) lops [⟨nl,.slice (some ⟨b3,0,none⟩) 2 2,nl,nl,[.slice (some ⟨b2,0,none⟩) 2 2,nl],0,0⟩,⟨.slice (some ⟨b4,0,none⟩) 1 1,nl,nl,nl,[],0,0⟩,⟨nl,nl,.slice (some ⟨b5,0,none⟩) 2 2,nl,[],0,0⟩,⟨nl,nl,nl,.slice (some ⟨b6,0,none⟩) 2 2,[],0,0⟩] := by
 refine ShO.of_blk h7 rfl rfl fun i p x hp hx => ?_
 match i with
 | 0 =>
  simp only [lops,List.getElem?_cons_zero,Option.some.injEq] at hp hx
  subst hp hx
  refine ⟨none_d W,⟨_,2,rfl,Nat.le_refl _,ShC.of_blk h3 rfl rfl fun i c kv hc hk => ?_⟩,none_f W,none_b W⟩
  match i with
  | 0 =>
   simp only [lo1,List.getElem?_cons_zero,Option.some.injEq] at hc hk
   subst hc hk
   exact ⟨_,2,rfl,Nat.le_refl _,Shows.of_blk h2 rfl⟩
  | 1 =>
   simp only [lo1,List.getElem?_cons_zero,List.getElem?_cons_succ,Option.some.injEq] at hc hk
   subst hc hk
   exact none_d W
  | n + 2 => simp [lo1] at hc
 | 1 =>
  simp only [lops,List.getElem?_cons_zero,List.getElem?_cons_succ,Option.some.injEq] at hp hx
  subst hp hx
  exact ⟨⟨_,1,rfl,Nat.le_refl _,Shows.of_blk h4 rfl⟩,none_c W,none_f W,none_b W⟩
 | 2 =>
  simp only [lops,List.getElem?_cons_zero,List.getElem?_cons_succ,Option.some.injEq] at hp hx
  subst hp hx
  exact ⟨none_d W,none_c W,⟨_,2,rfl,Nat.le_refl _,ShF.of_blk h5 rfl⟩,none_b W⟩
 | 3 =>
  simp only [lops,List.getElem?_cons_zero,List.getElem?_cons_succ,Option.some.injEq] at hp hx
  subst hp hx
  exact ⟨none_d W,none_c W,none_f W,⟨_,2,rfl,Nat.le_refl _,Shows.of_blk h6 rfl⟩⟩
 | n + 4 => simp [lops] at hp
set_option maxRecDepth 100000 in
set_option maxHeartbeats 4000000 in
theorem little_any (w : World) : Calls Tryz.prog 28 #[] w fun e w' => (∃ A c vs,e = .returned (.tuple #[.agg #[.int .i64 64,.slice A 4 c],.string ⟨ltxt.toArray⟩]) ∧ 4 ≤ c ∧ ShO w' A lops vs) ∧ Below w.heap.size w w' := by
 have HB1 : Hid (Below w.heap.size w ((w.alloc (.cells #[.int .i64 0,.slice none 0 0] 60)).alloc (.cells #[.int .i64 64,.slice none 0 0] 60))) := Lib.hid ((one w _).alloc (by simp) _)
 have HR0 : Hid (Blk w.heap.size #[.int .i64 0,.slice none 0 0] 60 ((w.alloc (.cells #[.int .i64 0,.slice none 0 0] 60)).alloc (.cells #[.int .i64 64,.slice none 0 0] 60))) := Lib.hid (Blk.on (blk_new w _ _) (one _ _))
 have HR1 : Hid (Blk (w.heap.size + 1) #[.int .i64 64,.slice none 0 0] 60 ((w.alloc (.cells #[.int .i64 0,.slice none 0 0] 60)).alloc (.cells #[.int .i64 64,.slice none 0 0] 60))) := Lib.hid (by
  have := blk_new (w.alloc (.cells #[.int .i64 0,.slice none 0 0] 60)) #[.int .i64 64,.slice none 0 0] 60
  rwa [World.size_alloc] at this)
 go_enter Tryz.func28,Tryz.ntmps28
 go_upto_region 2 with fail
 have hb1 := HB1.out
 have hR0 := HR0.out
 have hR1 := HR1.out
 clear HB1 HR0 HR1
 generalize ((w.alloc (.cells #[.int .i64 0,.slice none 0 0] 60)).alloc (.cells #[.int .i64 64,.slice none 0 0] 60)) = W1 at hb1 hR0 hR1 ⊢
 have ltA := hR1.lt
 have HB2 : Hid (Below W1.heap.size W1 ((W1.alloc (.cells #[.int .u8 160,.int .u8 1] 5)).alloc (.cells #[.int .i64 1,.int .i64 1,.int .i64 1,.slice (some ⟨W1.heap.size,0,none⟩) 2 2,.int .i64 0,.int .u64 0,.int .u64 0,.int .i64 0,.int .i64 4,.int .i64 1,.int .i64 0,.slice none 0 0,.int .i64 4,.int .u64 0,.int .u64 167772160,.int .i64 8] 92))) := Lib.hid ((one W1 _).alloc (by simp) _)
 have HP2 : Hid (Blk W1.heap.size #[.int .u8 160,.int .u8 1] 5 ((W1.alloc (.cells #[.int .u8 160,.int .u8 1] 5)).alloc (.cells #[.int .i64 1,.int .i64 1,.int .i64 1,.slice (some ⟨W1.heap.size,0,none⟩) 2 2,.int .i64 0,.int .u64 0,.int .u64 0,.int .i64 0,.int .i64 4,.int .i64 1,.int .i64 0,.slice none 0 0,.int .i64 4,.int .u64 0,.int .u64 167772160,.int .i64 8] 92))) := Lib.hid (Blk.on (blk_new W1 _ _) (one _ _))
 have HP3 : Hid (Blk (W1.heap.size + 1) #[.int .i64 1,.int .i64 1,.int .i64 1,.slice (some ⟨W1.heap.size,0,none⟩) 2 2,.int .i64 0,.int .u64 0,.int .u64 0,.int .i64 0,.int .i64 4,.int .i64 1,.int .i64 0,.slice none 0 0,.int .i64 4,.int .u64 0,.int .u64 167772160,.int .i64 8] 92 ((W1.alloc (.cells #[.int .u8 160,.int .u8 1] 5)).alloc (.cells #[.int .i64 1,.int .i64 1,.int .i64 1,.slice (some ⟨W1.heap.size,0,none⟩) 2 2,.int .i64 0,.int .u64 0,.int .u64 0,.int .i64 0,.int .i64 4,.int .i64 1,.int .i64 0,.slice none 0 0,.int .i64 4,.int .u64 0,.int .u64 167772160,.int .i64 8] 92))) := Lib.hid (by
  have := blk_new (W1.alloc (.cells #[.int .u8 160,.int .u8 1] 5)) #[.int .i64 1,.int .i64 1,.int .i64 1,.slice (some ⟨W1.heap.size,0,none⟩) 2 2,.int .i64 0,.int .u64 0,.int .u64 0,.int .i64 0,.int .i64 4,.int .i64 1,.int .i64 0,.slice none 0 0,.int .i64 4,.int .u64 0,.int .u64 167772160,.int .i64 8] 92
  rwa [World.size_alloc] at this)
 go_upto_region 3 with fail
 have hb2 := HB2.out
 have hP2 := HP2.out
 have hP3 := HP3.out
 have hR0 := hR0.on hb2
 have hR1 := hR1.on hb2
 have hb3 := hb1.trans (hb2.mono hb1.size)
 clear HB2 HP2 HP3
 generalize ((W1.alloc (.cells #[.int .u8 160,.int .u8 1] 5)).alloc (.cells #[.int .i64 1,.int .i64 1,.int .i64 1,.slice (some ⟨W1.heap.size,0,none⟩) 2 2,.int .i64 0,.int .u64 0,.int .u64 0,.int .i64 0,.int .i64 4,.int .i64 1,.int .i64 0,.slice none 0 0,.int .i64 4,.int .u64 0,.int .u64 167772160,.int .i64 8] 92)) = W2 at hb2 hb3 hR0 hR1 hP2 hP3 ⊢
 have lt0 := hR0.lt
 have lt1 := hR1.lt
 have f0 := hR0.open_
 have f1 := hR1.open_
 have r00 : W2.cell? ⟨w.heap.size,0,none⟩ = some (.int .i64 0) := hR0.cell rfl
 have r01 : W2.cell? ⟨w.heap.size,1,none⟩ = some (.slice none 0 0) := hR0.cell rfl
 have r10 : W2.cell? ⟨w.heap.size + 1,0,none⟩ = some (.int .i64 64) := hR1.cell rfl
 have r11 : W2.cell? ⟨w.heap.size + 1,1,none⟩ = some (.slice none 0 0) := hR1.cell rfl
 have hb4 : Below W2.heap.size W2 ((((W2.alloc (.cells #[.int .u8 171] 5)).alloc (.cells #[.int .i64 3,.int .i64 1,.int .i64 5,.int .i64 2] 125)).alloc (.cells #[.bool false,.bool true] 4)).alloc (.cells #[.int .i64 1,.int .i64 1,.int .i64 0,.int .i64 0,.int .i64 0,.int .i64 0,.slice none 0 0,.int .i64 0,.int .i64 0,.int .i64 0,.int .i64 0,.slice (some ⟨W1.heap.size + 1,0,none⟩) 2 2,.slice none 0 0,.slice none 0 0,.int .i64 2,.int .i64 0,.int .i64 0,.int .i64 0,.int .i64 0,.int .i64 0,.slice (some ⟨W2.heap.size,0,none⟩) 1 1,.int .i64 0,.int .i64 0,.int .i64 0,.int .i64 0,.slice none 0 0,.slice none 0 0,.slice none 0 0,.int .i64 10,.int .i64 0,.int .i64 0,.int .i64 0,.int .i64 0,.int .i64 0,.slice none 0 0,.int .i64 0,.int .i64 0,.int .i64 0,.int .i64 0,.slice none 0 0,.slice (some ⟨W2.heap.size + 1,0,none⟩) 2 2,.slice none 0 0,.int .i64 11,.int .i64 1,.int .i64 0,.int .i64 0,.int .i64 0,.int .i64 0,.slice none 0 0,.int .i64 0,.int .i64 0,.int .i64 0,.int .i64 0,.slice none 0 0,.slice none 0 0,.slice (some ⟨W2.heap.size + 1 + 1,0,none⟩) 2 2] 108)) := (((one W2 _).alloc (by simp) _).alloc (by simp;omega) _).alloc (by simp;omega) _
 have hS : ((((W2.alloc (.cells #[.int .u8 171] 5)).alloc (.cells #[.int .i64 3,.int .i64 1,.int .i64 5,.int .i64 2] 125)).alloc (.cells #[.bool false,.bool true] 4)).alloc (.cells #[.int .i64 1,.int .i64 1,.int .i64 0,.int .i64 0,.int .i64 0,.int .i64 0,.slice none 0 0,.int .i64 0,.int .i64 0,.int .i64 0,.int .i64 0,.slice (some ⟨W1.heap.size + 1,0,none⟩) 2 2,.slice none 0 0,.slice none 0 0,.int .i64 2,.int .i64 0,.int .i64 0,.int .i64 0,.int .i64 0,.int .i64 0,.slice (some ⟨W2.heap.size,0,none⟩) 1 1,.int .i64 0,.int .i64 0,.int .i64 0,.int .i64 0,.slice none 0 0,.slice none 0 0,.slice none 0 0,.int .i64 10,.int .i64 0,.int .i64 0,.int .i64 0,.int .i64 0,.int .i64 0,.slice none 0 0,.int .i64 0,.int .i64 0,.int .i64 0,.int .i64 0,.slice none 0 0,.slice (some ⟨W2.heap.size + 1,0,none⟩) 2 2,.slice none 0 0,.int .i64 11,.int .i64 1,.int .i64 0,.int .i64 0,.int .i64 0,.int .i64 0,.slice none 0 0,.int .i64 0,.int .i64 0,.int .i64 0,.int .i64 0,.slice none 0 0,.slice none 0 0,.slice (some ⟨W2.heap.size + 1 + 1,0,none⟩) 2 2] 108)).cell? ⟨w.heap.size + 1,1,none⟩ = some (.slice none 0 0) := (hR1.on hb4).cell rfl
 have hSf := (hR1.on hb4).open_ 1
 go_upto_region 4 with fail
 have hz1 := hb1.size
 have hz3 := hb3.size
 have a4 : Blk W2.heap.size #[.int .u8 171] 5 ((((W2.alloc (.cells #[.int .u8 171] 5)).alloc (.cells #[.int .i64 3,.int .i64 1,.int .i64 5,.int .i64 2] 125)).alloc (.cells #[.bool false,.bool true] 4)).alloc (.cells #[.int .i64 1,.int .i64 1,.int .i64 0,.int .i64 0,.int .i64 0,.int .i64 0,.slice none 0 0,.int .i64 0,.int .i64 0,.int .i64 0,.int .i64 0,.slice (some ⟨W1.heap.size + 1,0,none⟩) 2 2,.slice none 0 0,.slice none 0 0,.int .i64 2,.int .i64 0,.int .i64 0,.int .i64 0,.int .i64 0,.int .i64 0,.slice (some ⟨W2.heap.size,0,none⟩) 1 1,.int .i64 0,.int .i64 0,.int .i64 0,.int .i64 0,.slice none 0 0,.slice none 0 0,.slice none 0 0,.int .i64 10,.int .i64 0,.int .i64 0,.int .i64 0,.int .i64 0,.int .i64 0,.slice none 0 0,.int .i64 0,.int .i64 0,.int .i64 0,.int .i64 0,.slice none 0 0,.slice (some ⟨W2.heap.size + 1,0,none⟩) 2 2,.slice none 0 0,.int .i64 11,.int .i64 1,.int .i64 0,.int .i64 0,.int .i64 0,.int .i64 0,.slice none 0 0,.int .i64 0,.int .i64 0,.int .i64 0,.int .i64 0,.slice none 0 0,.slice none 0 0,.slice (some ⟨W2.heap.size + 1 + 1,0,none⟩) 2 2] 108)) := Blk.on (Blk.on (Blk.on (blk_new W2 _ _) (one _ _)) (one _ _)) (one _ _)
 have a5 : Blk (W2.heap.size + 1) #[.int .i64 3,.int .i64 1,.int .i64 5,.int .i64 2] 125 ((((W2.alloc (.cells #[.int .u8 171] 5)).alloc (.cells #[.int .i64 3,.int .i64 1,.int .i64 5,.int .i64 2] 125)).alloc (.cells #[.bool false,.bool true] 4)).alloc (.cells #[.int .i64 1,.int .i64 1,.int .i64 0,.int .i64 0,.int .i64 0,.int .i64 0,.slice none 0 0,.int .i64 0,.int .i64 0,.int .i64 0,.int .i64 0,.slice (some ⟨W1.heap.size + 1,0,none⟩) 2 2,.slice none 0 0,.slice none 0 0,.int .i64 2,.int .i64 0,.int .i64 0,.int .i64 0,.int .i64 0,.int .i64 0,.slice (some ⟨W2.heap.size,0,none⟩) 1 1,.int .i64 0,.int .i64 0,.int .i64 0,.int .i64 0,.slice none 0 0,.slice none 0 0,.slice none 0 0,.int .i64 10,.int .i64 0,.int .i64 0,.int .i64 0,.int .i64 0,.int .i64 0,.slice none 0 0,.int .i64 0,.int .i64 0,.int .i64 0,.int .i64 0,.slice none 0 0,.slice (some ⟨W2.heap.size + 1,0,none⟩) 2 2,.slice none 0 0,.int .i64 11,.int .i64 1,.int .i64 0,.int .i64 0,.int .i64 0,.int .i64 0,.slice none 0 0,.int .i64 0,.int .i64 0,.int .i64 0,.int .i64 0,.slice none 0 0,.slice none 0 0,.slice (some ⟨W2.heap.size + 1 + 1,0,none⟩) 2 2] 108)) := Blk.on (Blk.on (by have := blk_new (W2.alloc (.cells #[.int .u8 171] 5)) #[.int .i64 3,.int .i64 1,.int .i64 5,.int .i64 2] 125;rwa [World.size_alloc] at this) (one _ _)) (one _ _)
 have a6 : Blk (W2.heap.size + 1 + 1) #[.bool false,.bool true] 4 ((((W2.alloc (.cells #[.int .u8 171] 5)).alloc (.cells #[.int .i64 3,.int .i64 1,.int .i64 5,.int .i64 2] 125)).alloc (.cells #[.bool false,.bool true] 4)).alloc (.cells #[.int .i64 1,.int .i64 1,.int .i64 0,.int .i64 0,.int .i64 0,.int .i64 0,.slice none 0 0,.int .i64 0,.int .i64 0,.int .i64 0,.int .i64 0,.slice (some ⟨W1.heap.size + 1,0,none⟩) 2 2,.slice none 0 0,.slice none 0 0,.int .i64 2,.int .i64 0,.int .i64 0,.int .i64 0,.int .i64 0,.int .i64 0,.slice (some ⟨W2.heap.size,0,none⟩) 1 1,.int .i64 0,.int .i64 0,.int .i64 0,.int .i64 0,.slice none 0 0,.slice none 0 0,.slice none 0 0,.int .i64 10,.int .i64 0,.int .i64 0,.int .i64 0,.int .i64 0,.int .i64 0,.slice none 0 0,.int .i64 0,.int .i64 0,.int .i64 0,.int .i64 0,.slice none 0 0,.slice (some ⟨W2.heap.size + 1,0,none⟩) 2 2,.slice none 0 0,.int .i64 11,.int .i64 1,.int .i64 0,.int .i64 0,.int .i64 0,.int .i64 0,.slice none 0 0,.int .i64 0,.int .i64 0,.int .i64 0,.int .i64 0,.slice none 0 0,.slice none 0 0,.slice (some ⟨W2.heap.size + 1 + 1,0,none⟩) 2 2] 108)) := Blk.on (by have := blk_new ((W2.alloc (.cells #[.int .u8 171] 5)).alloc (.cells #[.int .i64 3,.int .i64 1,.int .i64 5,.int .i64 2] 125)) #[.bool false,.bool true] 4;rwa [World.size_alloc,World.size_alloc] at this) (one _ _)
 have a7 : Blk (W2.heap.size + 1 + 1 + 1) #[.int .i64 1,.int .i64 1,.int .i64 0,.int .i64 0,.int .i64 0,.int .i64 0,.slice none 0 0,.int .i64 0,.int .i64 0,.int .i64 0,.int .i64 0,.slice (some ⟨W1.heap.size + 1,0,none⟩) 2 2,.slice none 0 0,.slice none 0 0,.int .i64 2,.int .i64 0,.int .i64 0,.int .i64 0,.int .i64 0,.int .i64 0,.slice (some ⟨W2.heap.size,0,none⟩) 1 1,.int .i64 0,.int .i64 0,.int .i64 0,.int .i64 0,.slice none 0 0,.slice none 0 0,.slice none 0 0,.int .i64 10,.int .i64 0,.int .i64 0,.int .i64 0,.int .i64 0,.int .i64 0,.slice none 0 0,.int .i64 0,.int .i64 0,.int .i64 0,.int .i64 0,.slice none 0 0,.slice (some ⟨W2.heap.size + 1,0,none⟩) 2 2,.slice none 0 0,.int .i64 11,.int .i64 1,.int .i64 0,.int .i64 0,.int .i64 0,.int .i64 0,.slice none 0 0,.int .i64 0,.int .i64 0,.int .i64 0,.int .i64 0,.slice none 0 0,.slice none 0 0,.slice (some ⟨W2.heap.size + 1 + 1,0,none⟩) 2 2] 108 ((((W2.alloc (.cells #[.int .u8 171] 5)).alloc (.cells #[.int .i64 3,.int .i64 1,.int .i64 5,.int .i64 2] 125)).alloc (.cells #[.bool false,.bool true] 4)).alloc (.cells #[.int .i64 1,.int .i64 1,.int .i64 0,.int .i64 0,.int .i64 0,.int .i64 0,.slice none 0 0,.int .i64 0,.int .i64 0,.int .i64 0,.int .i64 0,.slice (some ⟨W1.heap.size + 1,0,none⟩) 2 2,.slice none 0 0,.slice none 0 0,.int .i64 2,.int .i64 0,.int .i64 0,.int .i64 0,.int .i64 0,.int .i64 0,.slice (some ⟨W2.heap.size,0,none⟩) 1 1,.int .i64 0,.int .i64 0,.int .i64 0,.int .i64 0,.slice none 0 0,.slice none 0 0,.slice none 0 0,.int .i64 10,.int .i64 0,.int .i64 0,.int .i64 0,.int .i64 0,.int .i64 0,.slice none 0 0,.int .i64 0,.int .i64 0,.int .i64 0,.int .i64 0,.slice none 0 0,.slice (some ⟨W2.heap.size + 1,0,none⟩) 2 2,.slice none 0 0,.int .i64 11,.int .i64 1,.int .i64 0,.int .i64 0,.int .i64 0,.int .i64 0,.slice none 0 0,.int .i64 0,.int .i64 0,.int .i64 0,.int .i64 0,.slice none 0 0,.slice none 0 0,.slice (some ⟨W2.heap.size + 1 + 1,0,none⟩) 2 2] 108)) := by
  have := blk_new (((W2.alloc (.cells #[.int .u8 171] 5)).alloc (.cells #[.int .i64 3,.int .i64 1,.int .i64 5,.int .i64 2] 125)).alloc (.cells #[.bool false,.bool true] 4)) #[.int .i64 1,.int .i64 1,.int .i64 0,.int .i64 0,.int .i64 0,.int .i64 0,.slice none 0 0,.int .i64 0,.int .i64 0,.int .i64 0,.int .i64 0,.slice (some ⟨W1.heap.size + 1,0,none⟩) 2 2,.slice none 0 0,.slice none 0 0,.int .i64 2,.int .i64 0,.int .i64 0,.int .i64 0,.int .i64 0,.int .i64 0,.slice (some ⟨W2.heap.size,0,none⟩) 1 1,.int .i64 0,.int .i64 0,.int .i64 0,.int .i64 0,.slice none 0 0,.slice none 0 0,.slice none 0 0,.int .i64 10,.int .i64 0,.int .i64 0,.int .i64 0,.int .i64 0,.int .i64 0,.slice none 0 0,.int .i64 0,.int .i64 0,.int .i64 0,.int .i64 0,.slice none 0 0,.slice (some ⟨W2.heap.size + 1,0,none⟩) 2 2,.slice none 0 0,.int .i64 11,.int .i64 1,.int .i64 0,.int .i64 0,.int .i64 0,.int .i64 0,.slice none 0 0,.int .i64 0,.int .i64 0,.int .i64 0,.int .i64 0,.slice none 0 0,.slice none 0 0,.slice (some ⟨W2.heap.size + 1 + 1,0,none⟩) 2 2] 108
  rwa [World.size_alloc,World.size_alloc,World.size_alloc] at this
 have q2 := (hP2.on hb4).other (R := w.heap.size + 1) (j := 1) (by omega) (.slice (some ⟨W2.heap.size + 1 + 1 + 1,0,none⟩) 4 4)
 have q3 := (hP3.on hb4).other (R := w.heap.size + 1) (j := 1) (by omega) (.slice (some ⟨W2.heap.size + 1 + 1 + 1,0,none⟩) 4 4)
 have q4 := a4.other (R := w.heap.size + 1) (j := 1) (by omega) (.slice (some ⟨W2.heap.size + 1 + 1 + 1,0,none⟩) 4 4)
 have q5 := a5.other (R := w.heap.size + 1) (j := 1) (by omega) (.slice (some ⟨W2.heap.size + 1 + 1 + 1,0,none⟩) 4 4)
 have q6 := a6.other (R := w.heap.size + 1) (j := 1) (by omega) (.slice (some ⟨W2.heap.size + 1 + 1 + 1,0,none⟩) 4 4)
 have q7 := a7.other (R := w.heap.size + 1) (j := 1) (by omega) (.slice (some ⟨W2.heap.size + 1 + 1 + 1,0,none⟩) 4 4)
 have r0 := (hR0.on hb4).other (R := w.heap.size + 1) (j := 1) (by omega) (.slice (some ⟨W2.heap.size + 1 + 1 + 1,0,none⟩) 4 4)
 have r1 := (hR1.on hb4).set 1 (.slice (some ⟨W2.heap.size + 1 + 1 + 1,0,none⟩) 4 4)
 have hb5 := (hb3.trans (hb4.mono hb3.size)).setCell (p := ⟨w.heap.size + 1,1,none⟩) (by show w.heap.size ≤ w.heap.size + 1;omega) (.slice (some ⟨W2.heap.size + 1 + 1 + 1,0,none⟩) 4 4)
 clear a4 a5 a6 a7 hb4 hS hSf r00 r01 r10 r11 f0 f1 hR0 hR1 hP2 hP3
 generalize (((((W2.alloc (.cells #[.int .u8 171] 5)).alloc (.cells #[.int .i64 3,.int .i64 1,.int .i64 5,.int .i64 2] 125)).alloc (.cells #[.bool false,.bool true] 4)).alloc (.cells #[.int .i64 1,.int .i64 1,.int .i64 0,.int .i64 0,.int .i64 0,.int .i64 0,.slice none 0 0,.int .i64 0,.int .i64 0,.int .i64 0,.int .i64 0,.slice (some ⟨W1.heap.size + 1,0,none⟩) 2 2,.slice none 0 0,.slice none 0 0,.int .i64 2,.int .i64 0,.int .i64 0,.int .i64 0,.int .i64 0,.int .i64 0,.slice (some ⟨W2.heap.size,0,none⟩) 1 1,.int .i64 0,.int .i64 0,.int .i64 0,.int .i64 0,.slice none 0 0,.slice none 0 0,.slice none 0 0,.int .i64 10,.int .i64 0,.int .i64 0,.int .i64 0,.int .i64 0,.int .i64 0,.slice none 0 0,.int .i64 0,.int .i64 0,.int .i64 0,.int .i64 0,.slice none 0 0,.slice (some ⟨W2.heap.size + 1,0,none⟩) 2 2,.slice none 0 0,.int .i64 11,.int .i64 1,.int .i64 0,.int .i64 0,.int .i64 0,.int .i64 0,.slice none 0 0,.int .i64 0,.int .i64 0,.int .i64 0,.int .i64 0,.slice none 0 0,.slice none 0 0,.slice (some ⟨W2.heap.size + 1 + 1,0,none⟩) 2 2] 108))).setCell ⟨w.heap.size + 1,1,none⟩ (.slice (some ⟨W2.heap.size + 1 + 1 + 1,0,none⟩) 4 4) = W3 at q2 q3 q4 q5 q6 q7 r0 r1 hb5 ⊢
 have f0 := r0.open_
 have r00 : W3.cell? ⟨w.heap.size,0,none⟩ = some (.int .i64 0) := r0.cell rfl
 have r01 : W3.cell? ⟨w.heap.size,1,none⟩ = some (.slice none 0 0) := r0.cell rfl
 have r10 : W3.cell? ⟨w.heap.size + 1,0,none⟩ = some (.int .i64 64) := r1.cell rfl
 have r11 : W3.cell? ⟨w.heap.size + 1,1,none⟩ = some (.slice (some ⟨W2.heap.size + 1 + 1 + 1,0,none⟩) 4 4) := r1.cell rfl
 have hsh := little_shows ((q2.other (R := w.heap.size) (j := 0) (by omega) (.int .i64 64)).other (R := w.heap.size) (j := 1) (by omega) (.slice (some ⟨W2.heap.size + 1 + 1 + 1,0,none⟩) 4 4)) ((q3.other (by omega) _).other (by omega) _) ((q4.other (by omega) _).other (by omega) _) ((q5.other (by omega) _).other (by omega) _) ((q6.other (by omega) _).other (by omega) _) ((q7.other (by omega) _).other (by omega) _)
 have hbz := (hb5.setCell (p := ⟨w.heap.size,0,none⟩) (Nat.le_refl _) (.int .i64 64)).setCell (p := ⟨w.heap.size,1,none⟩) (Nat.le_refl _) (.slice (some ⟨W2.heap.size + 1 + 1 + 1,0,none⟩) 4 4)
 have HSH := Lib.hid hsh
 have HBZ := Lib.hid hbz
 have g0 := ((r0.set 0 (.int .i64 64)).set 1 (.slice (some ⟨W2.heap.size + 1 + 1 + 1,0,none⟩) 4 4)).cell (j := 0) rfl
 have g1 := ((r0.set 0 (.int .i64 64)).set 1 (.slice (some ⟨W2.heap.size + 1 + 1 + 1,0,none⟩) 4 4)).cell (j := 1) rfl
 clear hsh hbz q2 q3 q4 q5 q6 q7 r0 r1 hb5
 go_wp2
 exact bodyPost_ret (v := .tuple #[.agg #[.int .i64 64,.slice (some ⟨W2.heap.size + 1 + 1 + 1,0,none⟩) 4 4],.string ⟨ltxt.toArray⟩]) (by simp [results,Tryz.results28,go_sem,g0,g1];rfl) rfl ⟨⟨_,4,_,rfl,Nat.le_refl _,HSH.out⟩,HBZ.out⟩
end Go.Proofs.YtpkmekdpmkfcdaaGreatDoor.Sr
namespace Go.Proofs.YtpkmekdpmkfcdaaGreatDoor.Sr
set_option linter.unusedVariables false
set_option linter.unusedSimpArgs false
open Go.RowKit Go.Proofs.YtpkmekdpmkfcdaaGreatDoor.Wd Go.Proofs.YtpkmekdpmkfcdaaGreatDoor.Px Go.Proofs.YtpkmekdpmkfcdaaGreatDoor.By Go.Proofs.YtpkmekdpmkfcdaaGreatDoor.En Go.Proofs.YtpkmekdpmkfcdaaGreatDoor.Pl Go.Proofs.YtpkmekdpmkfcdaaGreatDoor.Pf Go.Proofs.YtpkmekdpmkfcdaaGreatDoor.Sc
theorem lops_lim : ∀ o ∈ lops,LimO o := by
 intro o ho
 have h := lops_in o ho
 refine ⟨h.sec,?_,?_,?_,?_,fun c hc => ?_⟩
 ·simp only [lops,List.mem_cons,List.not_mem_nil,or_false] at ho
  rcases ho with rfl | rfl | rfl | rfl <;> decide
 ·simp only [lops,List.mem_cons,List.not_mem_nil,or_false] at ho
  rcases ho with rfl | rfl | rfl | rfl
  ·simp [lo1]
  ·simp [lo2]
  ·simp [lo3]
  ·simp [lo4]
 ·simp only [lops,List.mem_cons,List.not_mem_nil,or_false] at ho
  rcases ho with rfl | rfl | rfl | rfl <;> decide
 ·simp only [lops,List.mem_cons,List.not_mem_nil,or_false] at ho
  rcases ho with rfl | rfl | rfl | rfl <;> decide
 ·refine ⟨?_,(h.chs c hc).h,(h.chs c hc).l⟩
  simp only [lops,List.mem_cons,List.not_mem_nil,or_false] at ho
  rcases ho with rfl | rfl | rfl | rfl
  ·simp only [lo1,List.mem_cons,List.not_mem_nil,or_false] at hc
   rcases hc with rfl | rfl <;> decide
  ·simp [lo2] at hc
  ·simp [lo3] at hc
  ·simp [lo4] at hc
theorem n22_any (n : Int) (w : World) : Calls Tryz.prog 14 #[.int .i64 n] w fun e w' => e = .returned (.int .i64 n) ∧ w' = w := by
 go_enter Tryz.func14,Tryz.ntmps14
 go_wp2
 go_ret
 exact ⟨rfl,rfl⟩
theorem first_print (A : Option Addr) (c : Nat) (vs : List Opv) (w : World) (hE : Env w) (hT : Tabs w) (hc : 4 ≤ c) (hs : ShO w A lops vs) :
  Calls Tryz.prog 24 #[.agg #[.int .i64 64,.slice A 4 c]] w fun e w' => e = .returned (.tuple #[.string ⟨ltxt.toArray⟩,.int .i64 0]) ∧ Below w.heap.size w w' := by
 have := Sr.print_any 64 lops vs A c w hE hT (by decide) hc hs lops_lim
 rw [printS_l] at this
 exact this
theorem first_parse (w : World) (hE : Env w) (hT : Tabs w) :
  Calls Tryz.prog 18 #[.string ⟨ltxt.toArray⟩] w fun e w' => (∃ A c vs,e = .returned (.tuple #[.agg #[.int .i64 64,.slice A 4 c],.int .i64 0,.int .i64 0]) ∧ ORow w.heap.size (.slice A 4 c) lops vs w') ∧ Below w.heap.size w w' := by
 have := Sr.parse_any ltxt w hE hT
 rw [parseS_l] at this
 exact this
set_option maxRecDepth 20000 in
set_option maxHeartbeats 2000000 in
theorem fst_any (w : World) (hE : Env w) (hT : Tabs w) :
  Calls Tryz.prog 10 #[] w fun e w' => e = .returned (.bool true) ∧ Below w.heap.size w w' := by
 go_enter Tryz.func10,Tryz.ntmps10
 go_wp2_with fail
 refine (little_any w).mono ?_
 rintro e w1 ⟨⟨A,c,vs,rfl,hc,hs⟩,hb1⟩
 have hb2 := hb1.alloc hb1.size (.cells #[.int .i64 64,.slice A 4 c] 60)
 have hs2 := hs.on (one w1 (.cells #[.int .i64 64,.slice A 4 c] 60))
 have hP2 : Blk w1.heap.size #[.int .i64 64,.slice A 4 c] 60 (w1.alloc (.cells #[.int .i64 64,.slice A 4 c] 60)) := blk_new w1 _ _
 have hz1 := hb1.size
 clear hs hb1
 go_wp2_with fail
 refine (first_print A c vs _ (hE.on hb2) (hT.on hb2) hc hs2).mono ?_
 rintro e w3 ⟨rfl,hb3⟩
 have hb4 := hb2.trans (hb3.mono hb2.size)
 have hs4 := hs2.on hb3
 have hP4 := hP2.on hb3
 clear hb2 hs2 hP2 hb3
 go_wp2_with fail
 refine (first_parse w3 (hE.on hb4) (hT.on hb4)).mono ?_
 rintro e w5 ⟨⟨A2,c2,vs2,rfl,hrow⟩,hb5⟩
 have hb6 := hb4.trans (hb5.mono hb4.size)
 have hs6 := hs4.on hb5
 have hP6 := hP4.on hb5
 obtain ⟨ht6,-,hd2⟩ := hrow.shows
 have hP7 := hP6.on (one w5 (.cells #[.int .i64 64,.slice A2 4 c2] 60))
 have hs7 := hs6.on (one w5 (.cells #[.int .i64 64,.slice A2 4 c2] 60))
 have ht7 := ht6.on (one w5 (.cells #[.int .i64 64,.slice A2 4 c2] 60))
 have hb8 := hb6.alloc hb6.size (.cells #[.int .i64 64,.slice A2 4 c2] 60)
 have p0 := hP7.cell (j := 0) rfl
 have p1 := hP7.cell (j := 1) rfl
 have o0 := hP6.cell (j := 0) rfl
 have o1 := hP6.cell (j := 1) rfl
 have HN : Hid (lops.length = 4) := Lib.hid rfl
 clear hrow hs6 ht6 hb5 hP4 hs4 hb4 hb6
 go_wp2_with fail
 refine (scr_same 64 HN vs2 vs A2 A c2 c _ (by omega) ht7 hs7 lops_lim).mono ?_
 rintro e w9 ⟨rfl,hb9⟩
 clear p0 p1 o0 o1
 go_wp2_with (go_at_call 14;refine (n22_any _ _).mono ?_;rintro e w10 ⟨rfl,hw⟩;rw [hw];clear hw)
 go_ret
 exact ⟨rfl,hb8.trans (hb9.mono hb8.size)⟩
end Go.Proofs.YtpkmekdpmkfcdaaGreatDoor.Sr
