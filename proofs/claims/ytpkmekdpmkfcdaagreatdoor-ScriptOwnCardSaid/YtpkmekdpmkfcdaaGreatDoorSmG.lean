/- Contract: changes as a text. Contract: is every field of a step zero? Contract: a step without the fields of its letters. Steps as a slice shows them. -/
import Derived.Test.YtpkmekdpmkfcdaaGreatDoorSmF
import Derived.Test.YtpkmekdpmkfcdaaGreatDoorScM
namespace Go.Proofs.YtpkmekdpmkfcdaaGreatDoor.Sr
set_option linter.unusedVariables false
set_option linter.unusedSimpArgs false
open Go.RowKit Go.Proofs.YtpkmekdpmkfcdaaGreatDoor.Wd Go.Proofs.YtpkmekdpmkfcdaaGreatDoor.Px Go.Proofs.YtpkmekdpmkfcdaaGreatDoor.By Go.Proofs.YtpkmekdpmkfcdaaGreatDoor.En Go.Proofs.YtpkmekdpmkfcdaaGreatDoor.Pl Go.Proofs.YtpkmekdpmkfcdaaGreatDoor.Pf Go.Proofs.YtpkmekdpmkfcdaaGreatDoor.Sc
/-- changes as a slice shows them -/
structure ShC (w : World) (A : Option Addr) (l : List Chg) (kvs : List Value) : Prop where
 len : kvs.length = l.length
 cells : 0 < l.length → ∃ b o,A = some ⟨b,o,none⟩ ∧ b < w.heap.size ∧ ∀ (i : Nat) c kv,l[i]? = some c → kvs[i]? = some kv → ∀ (j : Nat) u,(chC c kv)[j]? = some u → w.cell? ⟨b,o + i * 8 + j,none⟩ = some u
 key : ∀ (i : Nat) c kv,l[i]? = some c → kvs[i]? = some kv → ∃ Ak ck,kv = .slice Ak c.key.length ck ∧ c.key.length ≤ ck ∧ Shows cel w w.heap.size Ak c.key
/-- what a change in memory is bound to -/
structure Lim (c : Chg) : Prop where
 key : c.key.length ≤ 2000000
 ph : c.ph < 18446744073709551616
 pl : c.pl < 18446744073709551616
/-- strings joined by a text -/
theorem join_own3 {w : World} {base n : Nat} {v : Value} (sep : List UInt8) (ls : List (List UInt8)) (hown : w.ownsRow base 9 1 v n (ls.map strc)) (hN : ls.length ≤ 140737488355328) (hlen : (Go.Lib.join ls sep).length ≤ 140737488355328) :
  Calls Tryz.prog 37 #[v,.string ⟨sep.toArray⟩] w fun e w' => e = .returned (strc (Go.Lib.join ls sep)) ∧ Below w.heap.size w w' := by
 have hn : ls.length = n := by have := hown.1;simpa using this
 subst hn
 rcases Nat.eq_zero_or_pos ls.length with h0 | h0
 ·obtain rfl : ls = [] := List.eq_nil_of_length_eq_zero h0
  obtain ⟨A,c,rfl⟩ := own_slice hown
  refine (Tryz.strings_Join_none A c ⟨sep.toArray⟩ w).mono ?_
  rintro e w' ⟨rfl,rfl⟩
  exact ⟨rfl,Below.refl _ _⟩
 ·obtain ⟨g,cap,rfl,-,hg⟩ := hown.form h0
  have hc := own_cap hown
  have hj : Go.Lib.join ((ls.map fun l => (⟨l.toArray⟩ : ByteArray)).map (·.data.toList)) (⟨sep.toArray⟩ : ByteArray).data.toList = Go.Lib.join ls sep := by
   rw [List.map_map]
   congr 1
   conv => rhs;rw [← List.map_id ls]
   rfl
  have hJ := Tryz.strings_Join g 0 cap (ls.map fun l => (⟨l.toArray⟩ : ByteArray)) ⟨sep.toArray⟩ w (fun j x hx => by
   rw [Nat.zero_add]
   have := hown.cellAt j (by rw [List.getElem?_map] at hx;have := (List.getElem?_eq_some_iff.1 (Option.map_eq_some_iff.1 hx).choose_spec.1).1;omega)
   rw [this,List.getElem?_map]
   rw [List.getElem?_map,Option.map_eq_some_iff] at hx
   obtain ⟨y,hy,rfl⟩ := hx
   rw [hy]
   rfl) hg (by simpa using hN) (by simpa using hc.1) (by rw [hj];exact hlen)
  rw [hj,List.length_map] at hJ
  exact hJ
theorem changeof_as {c : Chg} {r : Except Int (List UInt8)} (hr : Hid (joined (chgT c) = r)) (A : Option Addr) (n cc : Nat) (hn : Hid (c.key.length = n)) (w : World) (hE : Env w) (hT : Tabs w) (hL : Lim c) (hc : n ≤ cc) (hs : Shows cel w w.heap.size A c.key) :
  Calls Tryz.prog 36 #[.agg (chC c (.slice A n cc))] w fun e w' => TextR r e ∧ Below w.heap.size w w' := by
 have hn := hn.out
 subst hn
 have := changeof_any c A cc w hE hT hL.key hc hs hL.ph hL.pl
 rwa [hr.out] at this
theorem chgT_len {c : Chg} {ws : List (List UInt8)} (h : chgT c = .ok ws) (hk : c.key.length ≤ 2000000) (hph : c.ph < 18446744073709551616) (hpl : c.pl < 18446744073709551616) : ws ≠ [] ∧ (join 32 ws).length ≤ 16000008 := by
 have h1 : 1 ≤ c.kind ∧ c.kind ≤ 5 := by
  by_cases h1 : 1 ≤ c.kind ∧ c.kind ≤ 5
  ·exact h1
  ·unfold chgT at h
   rw [if_pos h1] at h
   cases h
 rw [chgT_eq h1 rfl rfl rfl rfl] at h
 split at h
 ·cases h
 ·split at h
  ·cases h
  ·rename_i h3
   split at h
   ·cases h
   ·injection h with h
    subst h
    have hl : numOk c.link = true := by cases e : numOk c.link;exact absurd (.inl e) h3;rfl
    have hs : numOk c.side = true := by cases e : numOk c.side;exact absurd (.inr e) h3;rfl
    have k1 := decW_len hl
    have k2 := decW_len hs
    have k3 := hexO_len c.key
    have k4 := pT_len c.pf c.ph c.pl c.pb
    rw [← pX_pT hph hpl] at k4
    have k5 : (chgNames.getD (c.kind.toNat - 1) []).length ≤ 10 := by
     have : c.kind.toNat = 1 ∨ c.kind.toNat = 2 ∨ c.kind.toNat = 3 ∨ c.kind.toNat = 4 ∨ c.kind.toNat = 5 := by omega
     rcases this with e | e | e | e | e <;> (rw [e];decide)
    refine ⟨by simp,?_⟩
    refine Nat.le_trans (join_le 32 4000001 _ (fun x hx => ?_)) ?_
    ·simp only [List.mem_append,List.mem_cons,List.not_mem_nil,or_false] at hx
     rcases hx with ((rfl | rfl) | hx) | hx
     ·omega
     ·omega
     ·split at hx
      ·simp only [List.mem_cons,List.not_mem_nil,or_false] at hx
       rcases hx with rfl | rfl <;> omega
      ·simp at hx
     ·split at hx
      ·simp only [List.mem_cons,List.not_mem_nil,or_false] at hx
       subst hx;omega
      ·simp at hx
    ·have e72 : decide (72 ∈ chgForm c.kind.toNat) = true → decide (80 ∈ chgForm c.kind.toNat) = true → False := by
      have : c.kind.toNat = 1 ∨ c.kind.toNat = 2 ∨ c.kind.toNat = 3 ∨ c.kind.toNat = 4 ∨ c.kind.toNat = 5 := by omega
      rcases this with e | e | e | e | e <;> (rw [e];decide)
     split
     ·split
      ·exact absurd (e72 (by assumption) (by assumption)) id
      ·simp
     ·split <;> simp
theorem chgT_err {c : Chg} {z : Int} (h : chgT c = .error z) : z ≠ 0 := by
 unfold chgT at h
 split at h
 ·injection h with h;subst h;decide
 ·split at h
  ·injection h with h;subst h;decide
  ·split at h
   ·injection h with h;subst h;decide
   ·split at h
    ·injection h with h;subst h;decide
    ·cases h
theorem libjoin_le (sep : List UInt8) (m : Nat) : ∀ l : List (List UInt8),(∀ x ∈ l,x.length ≤ m) → (Go.Lib.join l sep).length ≤ l.length * (m + sep.length)
 | [],_ => by simp [Go.Lib.join]
 | [a],h => by
  have := h a (by simp)
  rw [Go.Lib.join_one];simp only [List.length_cons,List.length_nil];omega
 | a :: b :: r,h => by
  have h1 := h a (by simp)
  have h2 := libjoin_le sep m (b :: r) (fun x hx => h x (by simp [hx]))
  have e : Go.Lib.join (a :: b :: r) sep = a ++ sep ++ Go.Lib.join (b :: r) sep := by
   simp [Go.Lib.join,List.intercalate,List.intersperse]
  rw [e,List.length_append,List.length_append]
  simp only [List.length_cons] at h2 ⊢
  have e2 : (r.length + 1 + 1) * (m + sep.length) = (r.length + 1) * (m + sep.length) + (m + sep.length) := by rw [Nat.add_mul (r.length + 1) 1,Nat.one_mul]
  omega
set_option maxRecDepth 20000 in
set_option maxHeartbeats 4000000 in
theorem printc_in (l : List Chg) (kvs : List Value) (A : Option Addr) (cc : Nat) (w : World) (hE : Env w) (hT : Tabs w) (hl : l.length ≤ 2000000) (hc : l.length ≤ cc) (hs : ShC w A l kvs) (hL : ∀ c ∈ l,Lim c) :
  Calls Tryz.prog 15 #[.slice A l.length cc] w fun e w' => TextR (joined (chgsT l)) e ∧ Below w.heap.size w w' := by
 obtain ⟨i0,hi0,hz0,hz1,hz2⟩ := info_parts infoStr
 obtain ⟨N,hN⟩ : ∃ N,l.length = N := ⟨_,rfl⟩
 rw [hN] at hl hc ⊢
 have HN := Lib.hid hN
 clear hN
 go_enter Tryz.func15,Tryz.ntmps15
 go_wp2
 go_loopw [4,12] (fun v i wr => ∃ (k : Nat) (dn : List (List UInt8)),k ≤ N ∧ i = .int .i64 (k : Int) ∧ Hid (∃ ls,mapE chgT (l.take k) = .ok ls ∧ dn = ls.map (join 32) ∧ ∀ a ∈ ls,a ≠ []) ∧ Hid (∀ x ∈ dn,x.length ≤ 16000008) ∧ (∃ A c,v = .slice A k c) ∧ wr.ownsRow w.heap.size 9 1 v k (dn.map strc) ∧ Below w.heap.size w wr) (fun _ i _ => N - (intOf i).toNat)
 case atStart => exact ⟨0,[],Nat.zero_le _,rfl,Lib.hid ⟨[],rfl,rfl,by simp⟩,Lib.hid (by simp),⟨_,_,rfl⟩,World.ownsRow_nil _ _ _ _,Below.refl _ _⟩
 case round =>
  obtain ⟨k,dn,hk,rfl,HM,HL,⟨A2,c2,rfl⟩,hown,hbl⟩ := hrel
  by_cases hlt : k < N
  ·have j1 : (k : Int) < (N : Int) := by omega
   obtain ⟨bb,o,rfl,hbb,hcell⟩ := hs.cells (by rw [HN.out];omega)
   obtain ⟨c,hf⟩ : ∃ f,l[k]? = some f := ⟨_,List.getElem?_eq_getElem (by rw [HN.out];exact hlt)⟩
   obtain ⟨kv,hkv⟩ : ∃ f,kvs[k]? = some f := ⟨_,List.getElem?_eq_getElem (by rw [hs.len,HN.out];exact hlt)⟩
   obtain ⟨Ak,kc,rfl,hkc,hsk⟩ := hs.key k c kv hf hkv
   have hcl := hcell k c _ hf hkv
   have cl : ∀ (j : Nat) u,(chC c (.slice Ak c.key.length kc))[j]? = some u → wr.cell? ⟨bb,o + k * 8 + j,none⟩ = some u := fun j u h => (hbl.cell (p := ⟨bb,o + k * 8 + j,none⟩) hbb).trans (hcl j u h)
   have hLc := hL c (List.mem_of_getElem? hf)
   obtain ⟨hts,htl⟩ := take_snoc hf
   have HBAD : Hid (∀ z,chgT c = .error z → joined (chgsT l) = .error z) := Lib.hid (fun z hz => by
    obtain ⟨ls,h1,h2⟩ := HM.out
    unfold chgsT joined
    rw [htl,mapE_bad _ h1 hz])
   have HGO : Hid (∀ ws,chgT c = .ok ws → ∃ ls,mapE chgT (l.take (k + 1)) = .ok ls ∧ dn ++ [join 32 ws] = ls.map (join 32) ∧ ∀ a ∈ ls,a ≠ []) := Lib.hid (fun ws hz => by
    obtain ⟨ls,h1,h2,h3⟩ := HM.out
    refine ⟨ls ++ [ws],by rw [hts];exact mapE_snoc h1 hz,by rw [h2];simp,fun a ha => ?_⟩
    rcases List.mem_append.1 ha with ha | ha
    ·exact h3 a ha
    ·rw [List.mem_singleton.1 ha]
     exact (chgT_len hz hLc.key hLc.ph hLc.pl).1)
   clear hts htl hf hcell hcl hkv
   obtain ⟨n,hn⟩ : ∃ n,c.key.length = n := ⟨_,rfl⟩
   have HNK := Lib.hid hn
   rw [hn] at hkc cl
   have hb2 := hbl.alloc hbl.size (.cells (chC c (.slice Ak n kc)) 92)
   have hsz := hbl.size
   have c0 : wr.cell? ⟨bb,o + k * 8 + 0,none⟩ = some (.int .i64 c.kind) := cl 0 _ rfl
   have c1 : wr.cell? ⟨bb,o + k * 8 + 1,none⟩ = some (.int .i64 c.link) := cl 1 _ rfl
   have c2' : wr.cell? ⟨bb,o + k * 8 + 2,none⟩ = some (.int .i64 c.side) := cl 2 _ rfl
   have c3 : wr.cell? ⟨bb,o + k * 8 + 3,none⟩ = some (.slice Ak n kc) := cl 3 _ rfl
   have c4 : wr.cell? ⟨bb,o + k * 8 + 4,none⟩ = some (.int .i64 c.pf) := cl 4 _ rfl
   have c5 : wr.cell? ⟨bb,o + k * 8 + 5,none⟩ = some (.int .u64 (c.ph : Int)) := cl 5 _ rfl
   have c6 : wr.cell? ⟨bb,o + k * 8 + 6,none⟩ = some (.int .u64 (c.pl : Int)) := cl 6 _ rfl
   have c7 : wr.cell? ⟨bb,o + k * 8 + 7,none⟩ = some (.int .i64 c.pb) := cl 7 _ rfl
   rw [Nat.add_zero] at c0
   obtain ⟨rc,hrc⟩ : ∃ r,chgT c = r := ⟨_,rfl⟩
   have hrj : Hid (joined (chgT c) = joined rc) := Lib.hid (by rw [hrc])
   have hcall := changeof_as hrj Ak n kc HNK _ (hE.on hb2) (hT.on hb2) hLc hkc ((hsk.below hb2).more hb2.size)
   have hown2 := hown.alloc (.cells (chC c (.slice Ak n kc)) 92)
   simp only [chC] at hcall hb2 hown2
   clear hn cl hsk
   cases rc with
   | error z =>
    have HE := Lib.hid (HBAD.out z hrc)
    have hzz : (z != 0) = true := by rw [bne_iff_ne];exact chgT_err hrc
    clear hrc
    go_wp2_with (go_at_call 36;refine hcall.mono ?_;rintro e w3 ⟨hres,hb3⟩;have hres2 : e = .returned (.tuple #[.string ⟨#[]⟩,.int .i64 z]) := hres;subst hres2;clear hres;have hb4 := hb2.trans (hb3.mono hb2.size))
    go_ret2
    exact ⟨by rw [HE.out];exact rfl,hb4⟩
   | ok ws =>
    have HG := Lib.hid (HGO.out ws hrc)
    have HWL := Lib.hid (chgT_len hrc hLc.key hLc.ph hLc.pl).2
    clear hrc
    obtain ⟨tx,htx⟩ : ∃ t,join 32 ws = t := ⟨_,rfl⟩
    rw [htx] at HG HWL
    have HTX := Lib.hid htx
    clear htx
    go_wp2_with (first
     | (go_at_call 36;refine hcall.mono ?_;rintro e w3 ⟨hres,hb3⟩;have hres2 : e = .returned (.tuple #[.string ⟨tx.toArray⟩,.int .i64 0]) := (by rw [← HTX.out];exact hres);subst hres2;clear hres;have hb4 := hb2.trans (hb3.mono hb2.size);have hown3 := own_on hown2 hb3;clear hb3)
     | (at_builtin;go_loud (refine wpList_append_own _ rfl _ _ 37 rfl w.heap.size 9 i0 (.string ⟨#[]⟩) 1 16 Tryz.underlying37 hi0 hz0 hz1 hz2 rfl (by decide) _ _ _ rfl (hown3.alloc _) ⟨w3.heap.size,0,none⟩ 1 1 [.string ⟨tx.toArray⟩] rfl rfl (cells_at rfl _ _) ?c2 ?c3 ?c4 ?c5 ?_)))
    case c2 => intro u hu;simp at hu;subst hu;rfl
    case c3 => unfold maxLen;omega
    case c4 => omega
    case c5 => have := hb4.size;simp;omega
    intro v' w5 hown5 hgrow _
    have hbA := (hb4.alloc hb4.size _).grown hgrow (by have := hb4.size;simp;omega) (fun j hj => (hown3.lt j hj).1)
    obtain ⟨A4,c4',rfl,-⟩ := own_sl hown5
    clear hown hown2 hown3 hgrow hb4 hb2 hbl c0 c1 c2' c3 c4 c5 c6 c7
    go_wp2
    go_roundw
    case rel => exact ⟨k + 1,dn ++ [tx],by omega,by go_num,HG,Lib.hid (fun x hx => by rcases List.mem_append.1 hx with hx | hx;exact HL.out x hx;rw [List.mem_singleton.1 hx];exact HWL.out),⟨_,_,rfl⟩,by simpa [strc] using hown5,hbA⟩
    case measure => simp [intOf];omega
  ·obtain rfl : k = N := by omega
   have j1 : ¬ (k : Int) < (k : Int) := by omega
   obtain ⟨ls,h1,h2,h3⟩ := HM.out
   have hdl : dn.length = k := by have := hown.1;simp at this;omega
   have hj : (Go.Lib.join dn [32,44,32]).length ≤ 140737488355328 := Nat.le_trans (libjoin_le [32,44,32] 16000008 dn HL.out) (by rw [hdl];simp only [List.length_cons,List.length_nil];omega)
   obtain ⟨tx,htx⟩ : ∃ t,Go.Lib.join dn [32,44,32] = t := ⟨_,rfl⟩
   have hcm : join 32 (comma ls) = tx := by rw [← htx,h2,join_comma ls h3]
   have hT2 : joined (chgsT l) = if 1048576 < tx.length then .error 221 else .ok tx := by
    unfold chgsT joined
    rw [← List.take_of_length_le (l := l) (i := k) (by rw [HN.out];exact Nat.le_refl _),h1]
    simp only [hcm]
    by_cases e : 1048576 < tx.length
    ·rw [if_pos e,if_pos e]
    ·rw [if_neg e,if_neg e];simp only [hcm]
   have hJ0 := join_own3 [32,44,32] dn hown (by omega) hj
   rw [htx] at hJ0 hj
   have HJ := Lib.hid hJ0
   have HT2 := Lib.hid hT2
   clear h1 h2 h3 hdl hT2 hown hJ0 htx hcm
   by_cases e : 1048576 < tx.length
   ·have HE : Hid (joined (chgsT l) = .error 221) := Lib.hid (by rw [HT2.out,if_pos e])
    have i1 : (1048576 : Int) < (tx.length : Int) := by omega
    clear HT2 e
    go_wp2_with (go_at_call 37;refine HJ.out.mono ?_;rintro e w2 ⟨rfl,hb2⟩;unfold strc)
    go_ret2
    exact ⟨by rw [HE.out];exact rfl,hbl.trans (hb2.mono hbl.size)⟩
   ·have HE : Hid (joined (chgsT l) = .ok tx) := Lib.hid (by rw [HT2.out,if_neg e])
    have i1 : ¬ (1048576 : Int) < (tx.length : Int) := by omega
    clear HT2 e
    go_wp2_with (go_at_call 37;refine HJ.out.mono ?_;rintro e w2 ⟨rfl,hb2⟩;unfold strc)
    go_ret2
    exact ⟨by rw [HE.out];exact rfl,hbl.trans (hb2.mono hbl.size)⟩
end Go.Proofs.YtpkmekdpmkfcdaaGreatDoor.Sr
namespace Go.Proofs.YtpkmekdpmkfcdaaGreatDoor.Sr
set_option linter.unusedVariables false
set_option linter.unusedSimpArgs false
open Go.RowKit Go.Proofs.YtpkmekdpmkfcdaaGreatDoor.Wd Go.Proofs.YtpkmekdpmkfcdaaGreatDoor.Px Go.Proofs.YtpkmekdpmkfcdaaGreatDoor.By Go.Proofs.YtpkmekdpmkfcdaaGreatDoor.En Go.Proofs.YtpkmekdpmkfcdaaGreatDoor.Pl Go.Proofs.YtpkmekdpmkfcdaaGreatDoor.Pf Go.Proofs.YtpkmekdpmkfcdaaGreatDoor.Sc
set_option maxRecDepth 100000 in
set_option maxHeartbeats 4000000 in
theorem empty_any (o : Opp) (Ad Ac Af Ab : Option Addr) (nd nc nf nb cd cc cf cb : Nat) (w : World) (h1 : nd ≤ 2000000) (h2 : nc ≤ 2000000) (h3 : nf ≤ 2000000) (h4 : nb ≤ 2000000) (hk : o.kind = 0) :
  Calls Tryz.prog 145 #[.agg (opC o (.slice Ad nd cd) (.slice Ac nc cc) (.slice Af nf cf) (.slice Ab nb cb))] w fun e w' => e = .returned (.bool (decide (nd = 0 ∧ nc = 0 ∧ nf = 0 ∧ nb = 0 ∧ o.a = 0 ∧ o.k = 0 ∧ o.t = 0 ∧ o.x = 0 ∧ o.link = 0 ∧ o.sec = 0 ∧ o.nano = 0 ∧ o.blk = 0 ∧ o.wid = 0))) ∧ Below w.heap.size w w' := by
 obtain ⟨k0,a,k,t,x,link,data,sec,nano,blk,wid,chs,fls,keep⟩ := o
 simp only [opC]
 have w1 : IntKind.i64.wrap ((nd : Int) + nc) = (nd : Int) + nc := IntWalk.i64_in _ ⟨by omega,by omega⟩
 have w2 : IntKind.i64.wrap ((nd : Int) + nc + nf) = (nd : Int) + nc + nf := IntWalk.i64_in _ ⟨by omega,by omega⟩
 have w3 : IntKind.i64.wrap ((nd : Int) + nc + nf + nb) = (nd : Int) + nc + nf + nb := IntWalk.i64_in _ ⟨by omega,by omega⟩
 obtain ⟨b,hb⟩ : ∃ b,decide (nd = 0 ∧ nc = 0 ∧ nf = 0 ∧ nb = 0 ∧ a = 0 ∧ k = 0 ∧ t = 0 ∧ x = 0 ∧ link = 0 ∧ sec = 0 ∧ nano = 0 ∧ blk = 0 ∧ wid = 0) = b := ⟨_,rfl⟩
 rw [hb]
 have HB := Lib.hid hb
 clear hb hk
 go_enter Tryz.func145,Tryz.ntmps145
 go_wp2
 all_goals first
  | (go_ret;exact ⟨by rw [show b = true by rw [← HB.out];exact decide_eq_true (by omega)];rfl,one w _⟩)
  | (go_ret;exact ⟨by rw [show b = false by rw [← HB.out];exact decide_eq_false (by omega)];rfl,one w _⟩)
end Go.Proofs.YtpkmekdpmkfcdaaGreatDoor.Sr
namespace Go.Proofs.YtpkmekdpmkfcdaaGreatDoor.Sr
set_option linter.unusedVariables false
set_option linter.unusedSimpArgs false
open Go.RowKit Go.Proofs.YtpkmekdpmkfcdaaGreatDoor.Wd Go.Proofs.YtpkmekdpmkfcdaaGreatDoor.Px Go.Proofs.YtpkmekdpmkfcdaaGreatDoor.By Go.Proofs.YtpkmekdpmkfcdaaGreatDoor.En Go.Proofs.YtpkmekdpmkfcdaaGreatDoor.Pl Go.Proofs.YtpkmekdpmkfcdaaGreatDoor.Pf Go.Proofs.YtpkmekdpmkfcdaaGreatDoor.Sc
/-- a step's cells without a letter's field -/
structure Cel where
 o : Opp
 dv : Value
 cv : Value
 fv : Value
 bv : Value
def Cel.c (x : Cel) : Array Value := opC x.o x.dv x.cv x.fv x.bv
def bareC (x : Cel) (c : UInt8) : Cel :=
 if c = 72 then { x with dv := nl } else if c = 83 then { x with o := { x.o with sec := 0,nano := 0 } } else if c = 66 then { x with bv := nl }
 else if c = 70 then { x with fv := nl } else if c = 67 then { x with cv := nl } else { x with o := setN x.o c 0 }
def SlC (x : Cel) : Prop := SlV x.dv ∧ SlV x.cv ∧ SlV x.fv ∧ SlV x.bv
theorem SlC.bare {x : Cel} (h : SlC x) (c : UInt8) : SlC (bareC x c) := by
 obtain ⟨h1,h2,h3,h4⟩ := h
 have hn : SlV nl := sl_slice _ _ _
 unfold bareC
 repeat' split
 all_goals exact ⟨by assumption,by assumption,by assumption,by assumption⟩
set_option maxRecDepth 20000 in
/-- the result's cells are read at the end -/
theorem close_bare {W : World} {R : Nat} {a : Array Value} {t : TypeId} (h : Blk R a t W) (ha : a.size = 14) {tmps : Array Value} {Qp : Ending → World → Prop} {v0 v1 v2 v3 v4 v5 v6 v7 v8 v9 v10 v11 v12 v13 : Value}
  (h2 : (tmps[4]?).getD undef = .pointer (some ⟨R,0,none⟩))
  (hQ : ∀ W8 : World,(∀ B a,B ≤ R → Below B a W → Below B a W8) → (∀ g,g ≠ R → W8.heap[g]? = W.heap[g]?) → Qp (.returned (.agg #[v0,v1,v2,v3,v4,v5,v6,v7,v8,v9,v10,v11,v12,v13])) W8) :
  bodyPost Tryz.prog Tryz.f146 Qp .ret { tmps := tmps,defers := [] } (put14 W R v0 v1 v2 v3 v4 v5 v6 v7 v8 v9 v10 v11 v12 v13) := by
 have h8 := put14_blk h ha v0 v1 v2 v3 v4 v5 v6 v7 v8 v9 v10 v11 v12 v13
 have hQ' := hQ _ (fun B a hB hb => put14_below hb hB v0 v1 v2 v3 v4 v5 v6 v7 v8 v9 v10 v11 v12 v13) (fun g hg => put14_other W hg v0 v1 v2 v3 v4 v5 v6 v7 v8 v9 v10 v11 v12 v13)
 clear hQ h
 generalize put14 W R v0 v1 v2 v3 v4 v5 v6 v7 v8 v9 v10 v11 v12 v13 = W8 at h8 hQ' ⊢
 have e0 : W8.cell? ⟨R,0,none⟩ = some v0 := h8.cell rfl
 have e1 : W8.cell? ⟨R,1,none⟩ = some v1 := h8.cell rfl
 have e2 : W8.cell? ⟨R,2,none⟩ = some v2 := h8.cell rfl
 have e3 : W8.cell? ⟨R,3,none⟩ = some v3 := h8.cell rfl
 have e4 : W8.cell? ⟨R,4,none⟩ = some v4 := h8.cell rfl
 have e5 : W8.cell? ⟨R,5,none⟩ = some v5 := h8.cell rfl
 have e6 : W8.cell? ⟨R,6,none⟩ = some v6 := h8.cell rfl
 have e7 : W8.cell? ⟨R,7,none⟩ = some v7 := h8.cell rfl
 have e8 : W8.cell? ⟨R,8,none⟩ = some v8 := h8.cell rfl
 have e9 : W8.cell? ⟨R,9,none⟩ = some v9 := h8.cell rfl
 have e10 : W8.cell? ⟨R,10,none⟩ = some v10 := h8.cell rfl
 have e11 : W8.cell? ⟨R,11,none⟩ = some v11 := h8.cell rfl
 have e12 : W8.cell? ⟨R,12,none⟩ = some v12 := h8.cell rfl
 have e13 : W8.cell? ⟨R,13,none⟩ = some v13 := h8.cell rfl
 clear h8
 exact bodyPost_ret (v := .agg #[v0,v1,v2,v3,v4,v5,v6,v7,v8,v9,v10,v11,v12,v13]) (by simp [results,Tryz.results146,go_sem, *]) rfl hQ'
set_option maxRecDepth 100000 in
set_option maxHeartbeats 4000000 in
theorem bare_any (x : Cel) (f : List UInt8) (hf : f.length ≤ 100) (hok : ∀ c ∈ f,c = 72 ∨ c = 83 ∨ c = 66 ∨ c = 70 ∨ c = 67 ∨ isNum c) (hsl : SlC x) (w : World) :
  Calls Tryz.prog 146 #[.agg x.c,.string ⟨f.toArray⟩] w fun e w' => e = .returned (.agg (f.foldl bareC { x with o := { x.o with kind := 0 } }).c) ∧ Below w.heap.size w w' := by
 obtain ⟨⟨k0,a,k,t,xx,link,data,sec,nano,blk,wid,chs,fls,keep⟩,dv,cv,fv,bv⟩ := x
 obtain ⟨rs,hrs⟩ : ∃ rs,f.foldl bareC ⟨⟨0,a,k,t,xx,link,data,sec,nano,blk,wid,chs,fls,keep⟩,dv,cv,fv,bv⟩ = rs := ⟨_,rfl⟩
 simp only [hrs]
 have HRS := Lib.hid hrs
 clear hrs
 obtain ⟨ra,hra⟩ : ∃ ra,rs.c = ra := ⟨_,rfl⟩
 rw [hra]
 have HRA := Lib.hid hra
 clear hra
 simp only [Cel.c,opC]
 go_enter Tryz.func146,Tryz.ntmps146
 go_wp2
 obtain ⟨tb,htb⟩ : ∃ tb : ByteArray,tb = ⟨f.toArray⟩ := ⟨_,rfl⟩
 obtain ⟨M,hM⟩ : ∃ M,f.length = M := ⟨_,rfl⟩
 have hsz : tb.size = M := by rw [htb];exact hM
 rw [← htb]
 have HTB := Lib.hid htb
 have HSZ := Lib.hid hsz
 have HM := Lib.hid hM
 have HOK := Lib.hid hok
 obtain ⟨x0,hx0⟩ : ∃ x0 : Cel,x0 = ⟨⟨0,a,k,t,xx,link,data,sec,nano,blk,wid,chs,fls,keep⟩,dv,cv,fv,bv⟩ := ⟨_,rfl⟩
 have hb0 : Below w.heap.size w (((w.alloc (.cells x0.c 108)).alloc (.cells (opC opp0 nl nl nl nl) 108)).iter tb 0) := ((one w _).alloc (by simp) _).alloc (by simp;omega) _
 have hI0 : ItAt (w.heap.size + 1 + 1) tb 0 (((w.alloc (.cells x0.c 108)).alloc (.cells (opC opp0 nl nl nl nl) 108)).iter tb 0) := by
  have := World.alloc_heap_new ((w.alloc (.cells x0.c 108)).alloc (.cells (opC opp0 nl nl nl nl) 108)) (.stringIter tb 0)
  rw [World.size_alloc,World.size_alloc] at this
  exact this
 have hP0 : Blk w.heap.size x0.c 108 (((w.alloc (.cells x0.c 108)).alloc (.cells (opC opp0 nl nl nl nl) 108)).iter tb 0) := Blk.on (Blk.on (blk_new w _ _) (one _ _)) (one _ _)
 have hR0 : Blk (w.heap.size + 1) (opC opp0 nl nl nl nl) 108 (((w.alloc (.cells x0.c 108)).alloc (.cells (opC opp0 nl nl nl nl) 108)).iter tb 0) := by
  have := blk_new (w.alloc (.cells x0.c 108)) (opC opp0 nl nl nl nl) 108
  rw [World.size_alloc] at this
  exact Blk.on this (one _ _)
 have HS0 : Hid (SlC x0) := Lib.hid (by rw [hx0];exact hsl)
 have HRS2 : Hid (f.foldl bareC x0 = rs) := Lib.hid (by rw [hx0];exact HRS.out)
 have hx0c : x0.c = opC ⟨0,a,k,t,xx,link,data,sec,nano,blk,wid,chs,fls,keep⟩ dv cv fv bv := by rw [hx0];rfl
 change Code.wp _ _ _ _ (((w.alloc (.cells (opC ⟨0,a,k,t,xx,link,data,sec,nano,blk,wid,chs,fls,keep⟩ dv cv fv bv) 108)).alloc (.cells (opC opp0 nl nl nl nl) 108)).iter tb 0)
 rw [← hx0c]
 generalize (((w.alloc (.cells x0.c 108)).alloc (.cells (opC opp0 nl nl nl nl) 108)).iter tb 0) = W0 at hb0 hI0 hP0 hR0 ⊢
 clear hx0c htb hM hsz hok hx0 HRS
 go_loopw [] (fun wr => ∃ (pos : Nat) (y : Cel),pos ≤ M ∧ Hid (y = (f.take pos).foldl bareC x0) ∧ Hid (SlC y) ∧ ItAt (w.heap.size + 1 + 1) tb pos wr ∧ Blk w.heap.size y.c 108 wr ∧ Blk (w.heap.size + 1) (opC opp0 nl nl nl nl) 108 wr ∧ Below w.heap.size w wr) (fun wr => tb.size - wr.iterPos (w.heap.size + 1 + 1))
 case atStart => exact ⟨0,x0,Nat.zero_le _,Lib.hid rfl,Lib.hid HS0.out,hI0,hP0,hR0,hb0⟩
 case round =>
  obtain ⟨pos,y,hpos,HY,HSL,hI,hPB,hRB,hbl⟩ := hrel
  clear hI0 hP0 hR0 hb0
  have hI1 : wr.heap[w.heap.size + 1 + 1]? = some (.stringIter tb pos) := hI
  by_cases hlt : pos < M
  ·obtain ⟨x,hx⟩ : ∃ x,f[pos]? = some x := ⟨_,List.getElem?_eq_getElem (by rw [HM.out];exact hlt)⟩
   have hlt2 : pos < tb.size := by rw [HSZ.out];exact hlt
   have htx : tb[pos]'hlt2 = x := str_at HTB.out hx hlt2
   have hxx := HOK.out x (List.mem_of_getElem? hx)
   have ha : (tb[pos]'hlt2).toNat < 128 := by rw [htx];rcases hxx with rfl | rfl | rfl | rfl | rfl | hxx <;> first | decide | (rcases hxx with rfl | rfl | rfl | rfl | rfl | rfl | rfl <;> decide)
   have hnx : ∀ ty,(Instr.next (.pointer (some ⟨w.heap.size + 1 + 1,0,none⟩)) true ty).run Tryz.prog wr = .ok (.tuple #[.bool true,.int .i64 pos,.int .i32 (tb[pos]'hlt2).toNat]) (wr.iterAt (w.heap.size + 1 + 1) tb (pos + 1)) := fun ty => Lib.run_next_ascii_at wr _ tb pos ty hI1 hlt2 ha
   rw [htx] at hnx
   have HST : Hid ((f.take (pos + 1)).foldl bareC x0 = bareC y x) := Lib.hid (by rw [(take_snoc hx).1,List.foldl_append,← HY.out];rfl)
   have HSN := Lib.hid (HSL.out.bare x)
   have hI2 := hI.next (pos + 1)
   have hP2 : Blk w.heap.size y.c 108 (wr.iterAt (w.heap.size + 1 + 1) tb (pos + 1)) := (Lib.iterAt_other wr _ _ tb (pos + 1) (by omega)).trans hPB
   have hR2 : Blk (w.heap.size + 1) (opC opp0 nl nl nl nl) 108 (wr.iterAt (w.heap.size + 1 + 1) tb (pos + 1)) := (Lib.iterAt_other wr _ _ tb (pos + 1) (by omega)).trans hRB
   have hbl2 := Lib.below_iterAt hbl (k := w.heap.size + 1 + 1) (by omega) tb (pos + 1)
   have hm : tb.size - (pos + 1) < tb.size - wr.iterPos (w.heap.size + 1 + 1) := by rw [hI.pos];omega
   have HMS := Lib.hid hm
   generalize wr.iterAt (w.heap.size + 1 + 1) tb (pos + 1) = w2 at hnx hI2 hP2 hR2 hbl2
   clear hI hI1 hPB hRB hbl hm htx hx ha
   obtain ⟨⟨yk,ya,ykk,yt,yx,yl,yd,ys,yn,yb,yw,yc,yf,ykp⟩,ydv,ycv,yfv,ybv⟩ := y
   obtain ⟨e0,e1,e2,e3,e4,e5,e6,e7,e8,e9,e10,e11,e12,e13,fr⟩ := opC_cells hP2
   simp only at e0 e1 e2 e3 e4 e5 e6 e7 e8 e9 e10 e11 e12 e13
   rcases hxx with rfl | rfl | rfl | rfl | rfl | hxx
   ·have hnx1 : ∀ ty,(Instr.next (.pointer (some ⟨w.heap.size + 1 + 1,0,none⟩)) true ty).run Tryz.prog wr = .ok (.tuple #[.bool true,.int .i64 pos,.int .i32 72]) w2 := hnx
    clear hnx
    go_wp2
    go_roundw
    case rel => exact ⟨pos + 1,_,by omega,Lib.hid HST.out.symm,HSN,((Below.heap_setCell w2 ⟨w.heap.size,6,none⟩ (.slice none 0 0) _ (by show _ ≠ w.heap.size;omega)).trans hI2),(hP2.set 6 (.slice none 0 0)),((Below.heap_setCell w2 ⟨w.heap.size,6,none⟩ (.slice none 0 0) _ (by show _ ≠ w.heap.size;omega)).trans hR2),(hbl2.setCell (p := ⟨w.heap.size,6,none⟩) (Nat.le_refl _) (.slice none 0 0))⟩
    case measure => rw [ItAt.pos ((Below.heap_setCell w2 ⟨w.heap.size,6,none⟩ (.slice none 0 0) _ (by show _ ≠ w.heap.size;omega)).trans hI2)];exact HMS.out
   ·have hnx1 : ∀ ty,(Instr.next (.pointer (some ⟨w.heap.size + 1 + 1,0,none⟩)) true ty).run Tryz.prog wr = .ok (.tuple #[.bool true,.int .i64 pos,.int .i32 83]) w2 := hnx
    clear hnx
    go_wp2
    go_roundw
    case rel => exact ⟨pos + 1,_,by omega,Lib.hid HST.out.symm,HSN,((Below.heap_setCell (w2.setCell ⟨w.heap.size,7,none⟩ (.int .i64 0)) ⟨w.heap.size,8,none⟩ (.int .i64 0) _ (by show _ ≠ w.heap.size;omega)).trans ((Below.heap_setCell w2 ⟨w.heap.size,7,none⟩ (.int .i64 0) _ (by show _ ≠ w.heap.size;omega)).trans hI2)),((hP2.set 7 (.int .i64 0)).set 8 (.int .i64 0)),((Below.heap_setCell (w2.setCell ⟨w.heap.size,7,none⟩ (.int .i64 0)) ⟨w.heap.size,8,none⟩ (.int .i64 0) _ (by show _ ≠ w.heap.size;omega)).trans ((Below.heap_setCell w2 ⟨w.heap.size,7,none⟩ (.int .i64 0) _ (by show _ ≠ w.heap.size;omega)).trans hR2)),((hbl2.setCell (p := ⟨w.heap.size,7,none⟩) (Nat.le_refl _) (.int .i64 0)).setCell (p := ⟨w.heap.size,8,none⟩) (Nat.le_refl _) (.int .i64 0))⟩
    case measure => rw [ItAt.pos ((Below.heap_setCell (w2.setCell ⟨w.heap.size,7,none⟩ (.int .i64 0)) ⟨w.heap.size,8,none⟩ (.int .i64 0) _ (by show _ ≠ w.heap.size;omega)).trans ((Below.heap_setCell w2 ⟨w.heap.size,7,none⟩ (.int .i64 0) _ (by show _ ≠ w.heap.size;omega)).trans hI2))];exact HMS.out
   ·have hnx1 : ∀ ty,(Instr.next (.pointer (some ⟨w.heap.size + 1 + 1,0,none⟩)) true ty).run Tryz.prog wr = .ok (.tuple #[.bool true,.int .i64 pos,.int .i32 66]) w2 := hnx
    clear hnx
    go_wp2
    go_roundw
    case rel => exact ⟨pos + 1,_,by omega,Lib.hid HST.out.symm,HSN,((Below.heap_setCell w2 ⟨w.heap.size,13,none⟩ (.slice none 0 0) _ (by show _ ≠ w.heap.size;omega)).trans hI2),(hP2.set 13 (.slice none 0 0)),((Below.heap_setCell w2 ⟨w.heap.size,13,none⟩ (.slice none 0 0) _ (by show _ ≠ w.heap.size;omega)).trans hR2),(hbl2.setCell (p := ⟨w.heap.size,13,none⟩) (Nat.le_refl _) (.slice none 0 0))⟩
    case measure => rw [ItAt.pos ((Below.heap_setCell w2 ⟨w.heap.size,13,none⟩ (.slice none 0 0) _ (by show _ ≠ w.heap.size;omega)).trans hI2)];exact HMS.out
   ·have hnx1 : ∀ ty,(Instr.next (.pointer (some ⟨w.heap.size + 1 + 1,0,none⟩)) true ty).run Tryz.prog wr = .ok (.tuple #[.bool true,.int .i64 pos,.int .i32 70]) w2 := hnx
    clear hnx
    go_wp2
    go_roundw
    case rel => exact ⟨pos + 1,_,by omega,Lib.hid HST.out.symm,HSN,((Below.heap_setCell w2 ⟨w.heap.size,12,none⟩ (.slice none 0 0) _ (by show _ ≠ w.heap.size;omega)).trans hI2),(hP2.set 12 (.slice none 0 0)),((Below.heap_setCell w2 ⟨w.heap.size,12,none⟩ (.slice none 0 0) _ (by show _ ≠ w.heap.size;omega)).trans hR2),(hbl2.setCell (p := ⟨w.heap.size,12,none⟩) (Nat.le_refl _) (.slice none 0 0))⟩
    case measure => rw [ItAt.pos ((Below.heap_setCell w2 ⟨w.heap.size,12,none⟩ (.slice none 0 0) _ (by show _ ≠ w.heap.size;omega)).trans hI2)];exact HMS.out
   ·have hnx1 : ∀ ty,(Instr.next (.pointer (some ⟨w.heap.size + 1 + 1,0,none⟩)) true ty).run Tryz.prog wr = .ok (.tuple #[.bool true,.int .i64 pos,.int .i32 67]) w2 := hnx
    clear hnx
    go_wp2
    go_roundw
    case rel => exact ⟨pos + 1,_,by omega,Lib.hid HST.out.symm,HSN,((Below.heap_setCell w2 ⟨w.heap.size,11,none⟩ (.slice none 0 0) _ (by show _ ≠ w.heap.size;omega)).trans hI2),(hP2.set 11 (.slice none 0 0)),((Below.heap_setCell w2 ⟨w.heap.size,11,none⟩ (.slice none 0 0) _ (by show _ ≠ w.heap.size;omega)).trans hR2),(hbl2.setCell (p := ⟨w.heap.size,11,none⟩) (Nat.le_refl _) (.slice none 0 0))⟩
    case measure => rw [ItAt.pos ((Below.heap_setCell w2 ⟨w.heap.size,11,none⟩ (.slice none 0 0) _ (by show _ ≠ w.heap.size;omega)).trans hI2)];exact HMS.out
   ·rcases hxx with rfl | rfl | rfl | rfl | rfl | rfl | rfl
    ·have hnx1 : ∀ ty,(Instr.next (.pointer (some ⟨w.heap.size + 1 + 1,0,none⟩)) true ty).run Tryz.prog wr = .ok (.tuple #[.bool true,.int .i64 pos,.int .i32 65]) w2 := hnx
     clear hnx
     go_wp2_with (go_at_call 167;refine (place_any w.heap.size 65 (by unfold isNum;simp) w2).mono ?_;rintro e w3 ⟨rfl,hw3⟩;rw [hw3];clear hw3;simp only [show offN 65 = 1 from rfl])
     go_roundw
     case rel => exact ⟨pos + 1,_,by omega,Lib.hid HST.out.symm,HSN,((Below.heap_setCell w2 ⟨w.heap.size,1,none⟩ (.int .i64 0) _ (by show _ ≠ w.heap.size;omega)).trans hI2),(hP2.set 1 (.int .i64 0)),((Below.heap_setCell w2 ⟨w.heap.size,1,none⟩ (.int .i64 0) _ (by show _ ≠ w.heap.size;omega)).trans hR2),(hbl2.setCell (p := ⟨w.heap.size,1,none⟩) (Nat.le_refl _) (.int .i64 0))⟩
     case measure => rw [ItAt.pos ((Below.heap_setCell w2 ⟨w.heap.size,1,none⟩ (.int .i64 0) _ (by show _ ≠ w.heap.size;omega)).trans hI2)];exact HMS.out
    ·have hnx1 : ∀ ty,(Instr.next (.pointer (some ⟨w.heap.size + 1 + 1,0,none⟩)) true ty).run Tryz.prog wr = .ok (.tuple #[.bool true,.int .i64 pos,.int .i32 75]) w2 := hnx
     clear hnx
     go_wp2_with (go_at_call 167;refine (place_any w.heap.size 75 (by unfold isNum;simp) w2).mono ?_;rintro e w3 ⟨rfl,hw3⟩;rw [hw3];clear hw3;simp only [show offN 75 = 2 from rfl])
     go_roundw
     case rel => exact ⟨pos + 1,_,by omega,Lib.hid HST.out.symm,HSN,((Below.heap_setCell w2 ⟨w.heap.size,2,none⟩ (.int .i64 0) _ (by show _ ≠ w.heap.size;omega)).trans hI2),(hP2.set 2 (.int .i64 0)),((Below.heap_setCell w2 ⟨w.heap.size,2,none⟩ (.int .i64 0) _ (by show _ ≠ w.heap.size;omega)).trans hR2),(hbl2.setCell (p := ⟨w.heap.size,2,none⟩) (Nat.le_refl _) (.int .i64 0))⟩
     case measure => rw [ItAt.pos ((Below.heap_setCell w2 ⟨w.heap.size,2,none⟩ (.int .i64 0) _ (by show _ ≠ w.heap.size;omega)).trans hI2)];exact HMS.out
    ·have hnx1 : ∀ ty,(Instr.next (.pointer (some ⟨w.heap.size + 1 + 1,0,none⟩)) true ty).run Tryz.prog wr = .ok (.tuple #[.bool true,.int .i64 pos,.int .i32 76]) w2 := hnx
     clear hnx
     go_wp2_with (go_at_call 167;refine (place_any w.heap.size 76 (by unfold isNum;simp) w2).mono ?_;rintro e w3 ⟨rfl,hw3⟩;rw [hw3];clear hw3;simp only [show offN 76 = 5 from rfl])
     go_roundw
     case rel => exact ⟨pos + 1,_,by omega,Lib.hid HST.out.symm,HSN,((Below.heap_setCell w2 ⟨w.heap.size,5,none⟩ (.int .i64 0) _ (by show _ ≠ w.heap.size;omega)).trans hI2),(hP2.set 5 (.int .i64 0)),((Below.heap_setCell w2 ⟨w.heap.size,5,none⟩ (.int .i64 0) _ (by show _ ≠ w.heap.size;omega)).trans hR2),(hbl2.setCell (p := ⟨w.heap.size,5,none⟩) (Nat.le_refl _) (.int .i64 0))⟩
     case measure => rw [ItAt.pos ((Below.heap_setCell w2 ⟨w.heap.size,5,none⟩ (.int .i64 0) _ (by show _ ≠ w.heap.size;omega)).trans hI2)];exact HMS.out
    ·have hnx1 : ∀ ty,(Instr.next (.pointer (some ⟨w.heap.size + 1 + 1,0,none⟩)) true ty).run Tryz.prog wr = .ok (.tuple #[.bool true,.int .i64 pos,.int .i32 84]) w2 := hnx
     clear hnx
     go_wp2_with (go_at_call 167;refine (place_any w.heap.size 84 (by unfold isNum;simp) w2).mono ?_;rintro e w3 ⟨rfl,hw3⟩;rw [hw3];clear hw3;simp only [show offN 84 = 3 from rfl])
     go_roundw
     case rel => exact ⟨pos + 1,_,by omega,Lib.hid HST.out.symm,HSN,((Below.heap_setCell w2 ⟨w.heap.size,3,none⟩ (.int .i64 0) _ (by show _ ≠ w.heap.size;omega)).trans hI2),(hP2.set 3 (.int .i64 0)),((Below.heap_setCell w2 ⟨w.heap.size,3,none⟩ (.int .i64 0) _ (by show _ ≠ w.heap.size;omega)).trans hR2),(hbl2.setCell (p := ⟨w.heap.size,3,none⟩) (Nat.le_refl _) (.int .i64 0))⟩
     case measure => rw [ItAt.pos ((Below.heap_setCell w2 ⟨w.heap.size,3,none⟩ (.int .i64 0) _ (by show _ ≠ w.heap.size;omega)).trans hI2)];exact HMS.out
    ·have hnx1 : ∀ ty,(Instr.next (.pointer (some ⟨w.heap.size + 1 + 1,0,none⟩)) true ty).run Tryz.prog wr = .ok (.tuple #[.bool true,.int .i64 pos,.int .i32 88]) w2 := hnx
     clear hnx
     go_wp2_with (go_at_call 167;refine (place_any w.heap.size 88 (by unfold isNum;simp) w2).mono ?_;rintro e w3 ⟨rfl,hw3⟩;rw [hw3];clear hw3;simp only [show offN 88 = 4 from rfl])
     go_roundw
     case rel => exact ⟨pos + 1,_,by omega,Lib.hid HST.out.symm,HSN,((Below.heap_setCell w2 ⟨w.heap.size,4,none⟩ (.int .i64 0) _ (by show _ ≠ w.heap.size;omega)).trans hI2),(hP2.set 4 (.int .i64 0)),((Below.heap_setCell w2 ⟨w.heap.size,4,none⟩ (.int .i64 0) _ (by show _ ≠ w.heap.size;omega)).trans hR2),(hbl2.setCell (p := ⟨w.heap.size,4,none⟩) (Nat.le_refl _) (.int .i64 0))⟩
     case measure => rw [ItAt.pos ((Below.heap_setCell w2 ⟨w.heap.size,4,none⟩ (.int .i64 0) _ (by show _ ≠ w.heap.size;omega)).trans hI2)];exact HMS.out
    ·have hnx1 : ∀ ty,(Instr.next (.pointer (some ⟨w.heap.size + 1 + 1,0,none⟩)) true ty).run Tryz.prog wr = .ok (.tuple #[.bool true,.int .i64 pos,.int .i32 98]) w2 := hnx
     clear hnx
     go_wp2_with (go_at_call 167;refine (place_any w.heap.size 98 (by unfold isNum;simp) w2).mono ?_;rintro e w3 ⟨rfl,hw3⟩;rw [hw3];clear hw3;simp only [show offN 98 = 9 from rfl])
     go_roundw
     case rel => exact ⟨pos + 1,_,by omega,Lib.hid HST.out.symm,HSN,((Below.heap_setCell w2 ⟨w.heap.size,9,none⟩ (.int .i64 0) _ (by show _ ≠ w.heap.size;omega)).trans hI2),(hP2.set 9 (.int .i64 0)),((Below.heap_setCell w2 ⟨w.heap.size,9,none⟩ (.int .i64 0) _ (by show _ ≠ w.heap.size;omega)).trans hR2),(hbl2.setCell (p := ⟨w.heap.size,9,none⟩) (Nat.le_refl _) (.int .i64 0))⟩
     case measure => rw [ItAt.pos ((Below.heap_setCell w2 ⟨w.heap.size,9,none⟩ (.int .i64 0) _ (by show _ ≠ w.heap.size;omega)).trans hI2)];exact HMS.out
    ·have hnx1 : ∀ ty,(Instr.next (.pointer (some ⟨w.heap.size + 1 + 1,0,none⟩)) true ty).run Tryz.prog wr = .ok (.tuple #[.bool true,.int .i64 pos,.int .i32 119]) w2 := hnx
     clear hnx
     go_wp2_with (go_at_call 167;refine (place_any w.heap.size 119 (by unfold isNum;simp) w2).mono ?_;rintro e w3 ⟨rfl,hw3⟩;rw [hw3];clear hw3;simp only [show offN 119 = 10 from rfl])
     go_roundw
     case rel => exact ⟨pos + 1,_,by omega,Lib.hid HST.out.symm,HSN,((Below.heap_setCell w2 ⟨w.heap.size,10,none⟩ (.int .i64 0) _ (by show _ ≠ w.heap.size;omega)).trans hI2),(hP2.set 10 (.int .i64 0)),((Below.heap_setCell w2 ⟨w.heap.size,10,none⟩ (.int .i64 0) _ (by show _ ≠ w.heap.size;omega)).trans hR2),(hbl2.setCell (p := ⟨w.heap.size,10,none⟩) (Nat.le_refl _) (.int .i64 0))⟩
     case measure => rw [ItAt.pos ((Below.heap_setCell w2 ⟨w.heap.size,10,none⟩ (.int .i64 0) _ (by show _ ≠ w.heap.size;omega)).trans hI2)];exact HMS.out
  ·obtain rfl : pos = M := by omega
   have hnx : ∀ ty,(Instr.next (.pointer (some ⟨w.heap.size + 1 + 1,0,none⟩)) true ty).run Tryz.prog wr = .ok (.tuple #[.bool false]) wr := fun ty => Lib.run_next_end_at wr _ tb pos ty hI1 (by rw [HSZ.out];omega)
   have hy : y = rs := by rw [HY.out,List.take_of_length_le (by rw [HM.out];exact Nat.le_refl _)];exact HRS2.out
   subst hy
   have HA := HRA
   have hsl2 := HSL.out
   obtain ⟨⟨yk,ya,ykk,yt,yx,yl,yd,ys,yn,yb,yw,yc,yf,ykp⟩,ydv,ycv,yfv,ybv⟩ := y
   obtain ⟨e0,e1,e2,e3,e4,e5,e6,e7,e8,e9,e10,e11,e12,e13,fr⟩ := opC_cells hPB
   obtain ⟨q0,q1,q2,q3,q4,q5,q6,q7,q8,q9,q10,q11,q12,q13,qr⟩ := opC_cells hRB
   simp only at e0 e1 e2 e3 e4 e5 e6 e7 e8 e9 e10 e11 e12 e13
   simp only [opp0,nl] at q0 q1 q2 q3 q4 q5 q6 q7 q8 q9 q10 q11 q12 q13
   obtain ⟨⟨_,_,_,rfl⟩,⟨_,_,_,rfl⟩,⟨_,_,_,rfl⟩,⟨_,_,_,rfl⟩⟩ := hsl2
   clear hI HY
   go_wp2
   refine close_bare hRB rfl rfl fun W8 hb8 ho8 => ⟨by rw [← HA.out];rfl,hb8 _ _ (by omega) hbl⟩
end Go.Proofs.YtpkmekdpmkfcdaaGreatDoor.Sr
namespace Go.Proofs.YtpkmekdpmkfcdaaGreatDoor.Sr
set_option linter.unusedVariables false
set_option linter.unusedSimpArgs false
open Go.RowKit Go.Proofs.YtpkmekdpmkfcdaaGreatDoor.Wd Go.Proofs.YtpkmekdpmkfcdaaGreatDoor.Px Go.Proofs.YtpkmekdpmkfcdaaGreatDoor.By Go.Proofs.YtpkmekdpmkfcdaaGreatDoor.En Go.Proofs.YtpkmekdpmkfcdaaGreatDoor.Pl Go.Proofs.YtpkmekdpmkfcdaaGreatDoor.Pf Go.Proofs.YtpkmekdpmkfcdaaGreatDoor.Sc
theorem zip_flat {α β γ : Type} (F : α → β → List γ) (k : Nat) (hF : ∀ a b,(F a b).length = k) : ∀ (l : List α) (m : List β) (i : Nat) (a : α) (b : β) (j : Nat),l[i]? = some a → m[i]? = some b → j < k → ((List.zipWith F l m).flatten)[i * k + j]? = (F a b)[j]?
 | [],_,i,a,b,j,h,_,_ => by simp at h
 | _ :: _,[],i,a,b,j,_,h,_ => by simp at h
 | x :: l,y :: m,0,a,b,j,h1,h2,hj => by
  simp only [List.getElem?_cons_zero,Option.some.injEq] at h1 h2
  subst h1 h2
  rw [List.zipWith_cons_cons,List.flatten_cons,Nat.zero_mul,Nat.zero_add,List.getElem?_append_left (by rw [hF];exact hj)]
 | x :: l,y :: m,i + 1,a,b,j,h1,h2,hj => by
  simp only [List.getElem?_cons_succ] at h1 h2
  rw [List.zipWith_cons_cons,List.flatten_cons,List.getElem?_append_right (by rw [hF,Nat.add_mul];omega),hF,show (i + 1) * k + j - k = i * k + j by rw [Nat.add_mul];omega]
  exact zip_flat F k hF l m i a b j h1 h2 hj
theorem map_flat {α γ : Type} (F : α → List γ) (k : Nat) (hF : ∀ a,(F a).length = k) (l : List α) (i : Nat) (a : α) (j : Nat) (h : l[i]? = some a) (hj : j < k) : (l.flatMap F)[i * k + j]? = (F a)[j]? := by
 have := zip_flat (fun a (_ : α) => F a) k (fun a _ => hF a) l l i a a j h h hj
 rw [List.zipWith_self] at this
 rw [← this]
 rfl
theorem own_cell {W : World} {B n s : Nat} {A : Option Addr} {c : Nat} {e : TypeId} {xs : List Value} (h : W.ownsRow B e s (.slice A n c) n xs) (hn : 0 < n) : ∃ g,A = some ⟨g,0,none⟩ ∧ g < W.heap.size ∧ ∀ j,j < n * s → W.cell? ⟨g,0 + j,none⟩ = xs[j]? := by
 obtain ⟨g,cap,e,hg,hg2⟩ := h.form hn
 injection e with e1 e2 e3
 subst e1
 refine ⟨g,rfl,(h.lt g rfl).2,fun j hj => ?_⟩
 rw [Nat.zero_add]
 exact h.cellAt j hj
theorem CRow.shows {B n c : Nat} {A : Option Addr} {l : List Chg} {kvs : List Value} {W : World} (h : CRow B (.slice A n c) l kvs W) : ShC W A l kvs := by
 have hrow := h.row
 obtain ⟨A',c',e,hc'⟩ := own_sl hrow
 injection e with e1 e2 e3
 subst e1 e2 e3
 refine ⟨h.len,fun hl => ?_,fun i ch kv hc hk => ?_⟩
 ·obtain ⟨g,rfl,hg,hcell⟩ := own_cell hrow hl
  refine ⟨g,0,rfl,hg,fun i ch kv hc hk j u hu => ?_⟩
  have hi := (List.getElem?_eq_some_iff.1 hc).1
  have hj : j < 8 := by have := (Array.getElem?_eq_some_iff.1 hu).1;simpa [chC] using this
  rw [Nat.add_assoc,hcell _ (by omega)]
  unfold cellsC
  rw [zip_flat (fun c kv => (chC c kv).toList) 8 (fun _ _ => rfl) l kvs i ch kv j hc hk hj]
  rw [Array.getElem?_toList];exact hu
 ·have ho := h.own i ch kv hc hk
  obtain ⟨Ak,ck,rfl,hck⟩ := own_sl ho
  exact ⟨Ak,ck,rfl,hck,Shows.of_own ho⟩
theorem own_faults {W : World} {B n c : Nat} {A : Option Addr} {l : List (Int × Int)} (h : W.ownsRow B 125 2 (.slice A n c) l.length (l.flatMap fltC)) : ShF W A l := fun hl => by
 obtain ⟨A',c',e,hc'⟩ := own_sl h
 injection e with e1 e2 e3
 subst e1 e2 e3
 obtain ⟨g,rfl,hg,hcell⟩ := own_cell h hl
 refine ⟨g,0,rfl,hg,fun i f hf => ?_⟩
 have hi := (List.getElem?_eq_some_iff.1 hf).1
 have e0 := hcell (i * 2 + 0) (by omega)
 have e1 := hcell (i * 2 + 1) (by omega)
 rw [map_flat fltC 2 (fun _ => rfl) l i f 0 hf (by omega)] at e0
 rw [map_flat fltC 2 (fun _ => rfl) l i f 1 hf (by omega)] at e1
 exact ⟨e0,by rw [Nat.add_assoc];exact e1⟩
theorem mapE_err {α β : Type} {f : α → Except Int β} : ∀ {l : List α} {z : Int},mapE f l = .error z → ∃ a ∈ l,f a = .error z
 | [],z,h => by rw [mapE] at h;cases h
 | a :: r,z,h => by
  rw [mapE] at h
  cases e : f a with
  | error y => rw [e] at h;injection h with h;subst h;exact ⟨a,by simp,e⟩
  | ok b =>
   rw [e] at h
   cases e2 : mapE f r with
   | error y =>
    rw [e2] at h;injection h with h;subst h
    obtain ⟨c,hc,hf⟩ := mapE_err e2
    exact ⟨c,by simp [hc],hf⟩
   | ok bs => rw [e2] at h;cases h
/-- what a step's slices show -/
structure ShOp (w : World) (o : Opp) (dv cv fv bv : Value) (kvs : List Value) : Prop where
 data : ∃ A c,dv = .slice A o.data.length c ∧ o.data.length ≤ c ∧ Shows cel w w.heap.size A o.data
 chs : ∃ A c,cv = .slice A o.chs.length c ∧ o.chs.length ≤ c ∧ ShC w A o.chs kvs
 fls : ∃ A c,fv = .slice A o.fls.length c ∧ o.fls.length ≤ c ∧ ShF w A o.fls
 keep : ∃ A c,bv = .slice A o.keep.length c ∧ o.keep.length ≤ c ∧ Shows Value.bool w w.heap.size A o.keep
/-- steps as a slice shows them -/
structure ShO (w : World) (A : Option Addr) (l : List Opp) (vs : List Opv) : Prop where
 len : vs.length = l.length
 cells : 0 < l.length → ∃ b o,A = some ⟨b,o,none⟩ ∧ b < w.heap.size ∧ ∀ (i : Nat) p x,l[i]? = some p → vs[i]? = some x → ∀ (j : Nat) u,(opC p x.dv x.cv x.fv x.bv)[j]? = some u → w.cell? ⟨b,o + i * 14 + j,none⟩ = some u
 each : ∀ (i : Nat) p x,l[i]? = some p → vs[i]? = some x → ShOp w p x.dv x.cv x.fv x.bv x.kvs
theorem ShC.on {w w' : World} {A : Option Addr} {l : List Chg} {kvs : List Value} (h : ShC w A l kvs) (hb : Below w.heap.size w w') : ShC w' A l kvs :=
 ⟨h.len,fun hl => by
  obtain ⟨b,o,rfl,hlt,hc⟩ := h.cells hl
  exact ⟨b,o,rfl,Nat.lt_of_lt_of_le hlt hb.size,fun i c kv h1 h2 j u hu => (hb.cell (p := ⟨b,o + i * 8 + j,none⟩) hlt).trans (hc i c kv h1 h2 j u hu)⟩,
  fun i c kv h1 h2 => by
  obtain ⟨Ak,ck,e,hk,hs⟩ := h.key i c kv h1 h2
  exact ⟨Ak,ck,e,hk,hs.on hb⟩⟩
theorem ShF.on {w w' : World} {A : Option Addr} {l : List (Int × Int)} (h : ShF w A l) (hb : Below w.heap.size w w') : ShF w' A l := fun hl => by
 obtain ⟨b,o,rfl,hlt,hc⟩ := h hl
 exact ⟨b,o,rfl,Nat.lt_of_lt_of_le hlt hb.size,fun i f hf => ⟨(hb.cell (p := ⟨b,o + i * 2,none⟩) hlt).trans (hc i f hf).1,(hb.cell (p := ⟨b,o + i * 2 + 1,none⟩) hlt).trans (hc i f hf).2⟩⟩
theorem ShOp.on {w w' : World} {o : Opp} {dv cv fv bv : Value} {kvs : List Value} (h : ShOp w o dv cv fv bv kvs) (hb : Below w.heap.size w w') : ShOp w' o dv cv fv bv kvs := by
 obtain ⟨⟨A1,c1,e1,h1,s1⟩,⟨A2,c2,e2,h2,s2⟩,⟨A3,c3,e3,h3,s3⟩,⟨A4,c4,e4,h4,s4⟩⟩ := h
 exact ⟨⟨A1,c1,e1,h1,s1.on hb⟩,⟨A2,c2,e2,h2,s2.on hb⟩,⟨A3,c3,e3,h3,s3.on hb⟩,⟨A4,c4,e4,h4,s4.on hb⟩⟩
theorem ShO.on {w w' : World} {A : Option Addr} {l : List Opp} {vs : List Opv} (h : ShO w A l vs) (hb : Below w.heap.size w w') : ShO w' A l vs :=
 ⟨h.len,fun hl => by
  obtain ⟨b,o,rfl,hlt,hc⟩ := h.cells hl
  exact ⟨b,o,rfl,Nat.lt_of_lt_of_le hlt hb.size,fun i c kv h1 h2 j u hu => (hb.cell (p := ⟨b,o + i * 14 + j,none⟩) hlt).trans (hc i c kv h1 h2 j u hu)⟩,
  fun i c kv h1 h2 => (h.each i c kv h1 h2).on hb⟩
theorem ShO.nil (w : World) (A : Option Addr) : ShO w A [] [] := ⟨rfl,fun h => absurd h (by simp),fun i p x h => by simp at h⟩
theorem OpO.shows {B : Nat} {o : Opp} {dv cv fv bv : Value} {kvs : List Value} {W : World} (h : OpO B o dv cv fv bv kvs W) : ShOp W o dv cv fv bv kvs := by
 have h1 := h.data
 have h2 := h.chs
 have h2r := h2.row
 have h3 := h.fls
 have h4 := h.keep
 obtain ⟨A1,c1,rfl,k1⟩ := own_sl h1
 obtain ⟨A2,c2,rfl,k2⟩ := own_sl h2r
 obtain ⟨A3,c3,rfl,k3⟩ := own_sl h3
 obtain ⟨A4,c4,rfl,k4⟩ := own_sl h4
 exact ⟨⟨A1,c1,rfl,k1,Shows.of_own h1⟩,⟨A2,c2,rfl,k2,h2.shows⟩,⟨A3,c3,rfl,k3,own_faults h3⟩,⟨A4,c4,rfl,k4,Shows.of_own h4⟩⟩
theorem ORow.shows {B n c : Nat} {A : Option Addr} {l : List Opp} {vs : List Opv} {W : World} (h : ORow B (.slice A n c) l vs W) : ShO W A l vs ∧ n = l.length ∧ l.length ≤ c := by
 have hrow := h.row
 obtain ⟨A',c',e,hc'⟩ := own_sl hrow
 injection e with e1 e2 e3
 subst e1 e2 e3
 refine ⟨⟨h.len,fun hl => ?_,fun i p x hp hx => (h.own i p x hp hx).1.shows⟩,rfl,hc'⟩
 obtain ⟨g,rfl,hg,hcell⟩ := own_cell hrow hl
 refine ⟨g,0,rfl,hg,fun i p x hp hx j u hu => ?_⟩
 have hi := (List.getElem?_eq_some_iff.1 hp).1
 have hj : j < 14 := by have := (Array.getElem?_eq_some_iff.1 hu).1;simpa [opC] using this
 rw [Nat.add_assoc,hcell _ (by omega)]
 unfold cellsO
 rw [zip_flat (fun o (x : Opv) => (opC o x.dv x.cv x.fv x.bv).toList) 14 (fun _ _ => rfl) l vs i p x j hp hx hj]
 rw [Array.getElem?_toList];exact hu
/-! ### without its letters' fields a step is empty, or something is to spare -/
set_option maxRecDepth 100000 in
theorem bare_spare (o : Opp) (Ad Ac Af Ab : Option Addr) (cd cc cf cb K : Nat) (h1 : 1 ≤ K) (h2 : K ≤ 14) :
  ∃ o' Ad' nd cd' Ac' nc cc' Af' nf cf' Ab' nb cb',(stepForm K).foldl bareC ⟨{ o with kind := 0 },.slice Ad o.data.length cd,.slice Ac o.chs.length cc,.slice Af o.fls.length cf,.slice Ab o.keep.length cb⟩
    = ⟨o',.slice Ad' nd cd',.slice Ac' nc cc',.slice Af' nf cf',.slice Ab' nb cb'⟩ ∧ o'.kind = 0 ∧ nd ≤ o.data.length ∧ nc ≤ o.chs.length ∧ nf ≤ o.fls.length ∧ nb ≤ o.keep.length
   ∧ decide (nd = 0 ∧ nc = 0 ∧ nf = 0 ∧ nb = 0 ∧ o'.a = 0 ∧ o'.k = 0 ∧ o'.t = 0 ∧ o'.x = 0 ∧ o'.link = 0 ∧ o'.sec = 0 ∧ o'.nano = 0 ∧ o'.blk = 0 ∧ o'.wid = 0) = !spareS o (stepForm K) := by
 have hK : K = 1 ∨ K = 2 ∨ K = 3 ∨ K = 4 ∨ K = 5 ∨ K = 6 ∨ K = 7 ∨ K = 8 ∨ K = 9 ∨ K = 10 ∨ K = 11 ∨ K = 12 ∨ K = 13 ∨ K = 14 := by omega
 rcases hK with rfl | rfl | rfl | rfl | rfl | rfl | rfl | rfl | rfl | rfl | rfl | rfl | rfl | rfl
 all_goals
  refine ⟨_,_,_,_,_,_,_,_,_,_,_,_,_,rfl,rfl,?_,?_,?_,?_,?_⟩
  ·first | exact Nat.le_refl _ | exact Nat.zero_le _
  ·first | exact Nat.le_refl _ | exact Nat.zero_le _
  ·first | exact Nat.le_refl _ | exact Nat.zero_le _
  ·first | exact Nat.le_refl _ | exact Nat.zero_le _
  ·rw [Bool.eq_iff_iff]
   simp [spareS,stepForm,bareC,setN]
   try grind
/-! ### sizes of words -/
theorem fldT_ne {o : Opp} (hin : OppIn o) {c : UInt8} {ws : List (List UInt8)} (h : fldT o c = .ok ws) : ∀ w ∈ ws,w ≠ [] := by
 by_cases h1 : c = 70
 ·subst h1;exact fun w hw => ((fld_F h).2.1 w hw).1
 ·by_cases h2 : c = 67
  ·subst h2;exact fun w hw => ((fld_C hin h).2 w hw).1
  ·obtain ⟨w,rfl,hw,-⟩ := fld_one hin h1 h2 h
   intro x hx
   rw [List.mem_singleton.1 hx];exact hw.1
/-- what a step in memory is bound to -/
structure LimO (o : Opp) : Prop where
 sec : o.sec ≤ 9223372036854775807
 data : o.data.length ≤ 2000000
 chs : o.chs.length ≤ 2000000
 fls : o.fls.length ≤ 2000000
 keep : o.keep.length ≤ 2000000
 lim : ∀ c ∈ o.chs,Lim c
theorem LimO.in_ {o : Opp} (h : LimO o) : OppIn o := ⟨h.sec,fun c hc => ⟨(h.lim c hc).ph,(h.lim c hc).pl⟩⟩
theorem prt_len (s n : Int) (h : s ≤ 9223372036854775807) : (prt s n).length ≤ 40 := by
 by_cases hv : vld s n = true
 ·have h2 := (vld_iff s n).1 hv
  rw [prt_of s n hv,List.length_append,List.length_cons,padTo_len 9 _ (decDigits_len_le 9 _ (by omega) (by omega))]
  have := decDigits_len_le 19 s.toNat (by omega) (by omega)
  omega
 ·rw [prt_not s n (by simpa using hv)];simp
theorem fltT_words {f : Int × Int} {b : List (List UInt8)} (h : fltT f = .ok b) : ∀ w ∈ b,w.length ≤ 20 := by
 unfold fltT at h
 split at h
 ·cases h
 ·split at h
  ·cases h
  ·rename_i h2
   injection h with h
   subst h
   have := decW_len (n := f.1) (by simpa using h2)
   intro w hw
   simp only [List.mem_cons,List.not_mem_nil,or_false] at hw
   rcases hw with rfl | rfl
   ·split <;> decide
   ·omega
theorem fltsT_len {l : List (Int × Int)} {ws : List (List UInt8)} (h : fltsT l = .ok ws) : (join 32 ws).length ≤ 2 * l.length * 21 := by
 have h3 := (flts_back h).2.2
 unfold fltsT at h
 cases e : mapE fltT l with
 | error z => rw [e] at h;cases h
 | ok ls =>
  rw [e] at h
  injection h with h
  have hw : ∀ w ∈ ws,w.length ≤ 20 := by
   intro w hw
   rw [← h] at hw
   obtain ⟨b,hb,hw⟩ := List.mem_flatten.1 hw
   obtain ⟨a,-,ha⟩ := mapE_mem e b hb
   exact fltT_words ha w hw
  have := join_le 32 20 ws hw
  rwa [h3] at this
theorem chgsT_len {l : List Chg} {ws : List (List UInt8)} (h : chgsT l = .ok ws) : (join 32 ws).length ≤ 1048576 := by
 unfold chgsT at h
 split at h
 ·cases h
 ·split at h
  ·cases h
  ·injection h with h
   subst h;omega
theorem fldT_len {o : Opp} (hL : LimO o) {c : UInt8} {ws : List (List UInt8)} (h : fldT o c = .ok ws) : (join 32 ws).length ≤ 100000000 := by
 have l1 := hL.data
 have l2 := hL.fls
 have l3 := hL.keep
 have l4 := hL.sec
 unfold fldT at h
 split at h
 ·injection h with h;subst h
  have := hexO_len o.data
  simp only [join];omega
 ·split at h
  ·split at h
   ·injection h with h;subst h
    have := prt_len o.sec o.nano l4
    simp only [join];omega
   ·cases h
  ·split at h
   ·injection h with h;subst h
    have : (bitO o.keep).length ≤ o.keep.length + 1 := by unfold bitO;split <;> simp
    simp only [join];omega
   ·split at h
    ·have := fltsT_len h;omega
    ·split at h
     ·have := chgsT_len h;omega
     ·split at h
      ·rename_i hv
       injection h with h;subst h
       have := decW_len hv
       simp only [join];omega
      ·cases h
theorem chgsT_err {l : List Chg} {z : Int} (h : chgsT l = .error z) : z ≠ 0 := by
 unfold chgsT at h
 split at h
 ·rename_i x e
  injection h with h;subst h
  obtain ⟨a,ha,he⟩ := mapE_err e
  exact chgT_err he
 ·split at h
  ·injection h with h;subst h;decide
  ·cases h
theorem fltsT_err {l : List (Int × Int)} {z : Int} (h : fltsT l = .error z) : z ≠ 0 := by
 unfold fltsT at h
 split at h
 ·rename_i x e
  injection h with h;subst h
  obtain ⟨a,ha,he⟩ := mapE_err e
  unfold fltT at he
  split at he
  ·injection he with he;subst he;decide
  ·split at he
   ·injection he with he;subst he;decide
   ·cases he
 ·cases h
theorem fldT_err {o : Opp} {c : UInt8} {z : Int} (h : fldT o c = .error z) : z ≠ 0 := by
 unfold fldT at h
 split at h
 ·cases h
 ·split at h
  ·split at h
   ·cases h
   ·injection h with h;subst h;decide
  ·split at h
   ·cases h
   ·split at h
    ·exact fltsT_err h
    ·split at h
     ·exact chgsT_err h
     ·split at h
      ·cases h
      ·injection h with h;subst h;decide
theorem stepT_err {o : Opp} {z : Int} (h : Sc.stepT o = .error z) : z ≠ 0 := by
 unfold Sc.stepT at h
 split at h
 ·injection h with h;subst h;decide
 ·split at h
  ·injection h with h;subst h;decide
  ·split at h
   ·rename_i x e
    injection h with h;subst h
    obtain ⟨a,ha,he⟩ := mapE_err e
    exact fldT_err he
   ·cases h
end Go.Proofs.YtpkmekdpmkfcdaaGreatDoor.Sr
