/- What is read of a text is no longer than the text. -/
import Derived.Test.YtpkmekdpmkfcdaaGreatDoorSmG
namespace Go.Proofs.YtpkmekdpmkfcdaaGreatDoor.Sr
set_option linter.unusedVariables false
set_option linter.unusedSimpArgs false
open Go.RowKit Go.Proofs.YtpkmekdpmkfcdaaGreatDoor.Wd Go.Proofs.YtpkmekdpmkfcdaaGreatDoor.Px Go.Proofs.YtpkmekdpmkfcdaaGreatDoor.By Go.Proofs.YtpkmekdpmkfcdaaGreatDoor.En Go.Proofs.YtpkmekdpmkfcdaaGreatDoor.Pl Go.Proofs.YtpkmekdpmkfcdaaGreatDoor.Pf Go.Proofs.YtpkmekdpmkfcdaaGreatDoor.Sc

theorem hexP_len : ∀ (l b : List UInt8), hexP l = some b → b.length ≤ l.length
  | [], b, h => by rw [hexP] at h; injection h with h; subst h; simp
  | [_], b, h => by rw [hexP] at h; cases h
  | x :: y :: r, b, h => by
    rw [hexP] at h
    split at h
    · cases e : hexP r with
      | none => rw [e] at h; cases h
      | some c =>
        rw [e] at h
        simp only [Option.map_some, Option.some.injEq] at h
        subst h
        have := hexP_len r c e
        simp only [List.length_cons]; omega
    · cases h
theorem hexW_len {l b : List UInt8} (h : hexW l = some b) : b.length ≤ l.length := by
  unfold hexW at h
  split at h
  · injection h with h; subst h; simp
  · exact hexP_len l b h
theorem bitP_len : ∀ (l : List UInt8) (b : List Bool), bitP l = some b → b.length ≤ l.length
  | [], b, h => by rw [bitP] at h; injection h with h; subst h; simp
  | c :: r, b, h => by
    rw [bitP] at h
    split at h
    · cases e : bitP r with
      | none => rw [e] at h; cases h
      | some d =>
        rw [e] at h
        simp only [Option.map_some, Option.some.injEq] at h
        subst h
        have := bitP_len r d e
        simp only [List.length_cons]; omega
    · cases h
theorem bitW_len {l : List UInt8} {b : List Bool} (h : bitW l = some b) : b.length ≤ l.length := by
  unfold bitW at h
  split at h
  · injection h with h; subst h; simp
  · exact bitP_len l b h
theorem flts_len (n : Nat) : ∀ (ws : List (List UInt8)) (l : List (Int × Int)), ws.length ≤ n → flts ws = .ok l → l.length ≤ ws.length
  | [], l, _, h => by rw [flts] at h; injection h with h; subst h; simp; all_goals simp
  | [_], l, _, h => by rw [flts] at h; injection h with h; subst h; simp; all_goals simp
  | k :: x :: r, l, hn, h => by
    match n, hn with
    | m + 2, hn =>
      rw [flts] at h
      split at h
      · cases h
      · split at h
        · cases h
        · split at h
          · cases h
          · rename_i l2 e
            injection h with h
            subst h
            have := flts_len m r l2 (by simp at hn; omega) e
            simp only [List.length_cons]; omega
theorem splW_len : ∀ (l cur : List (List UInt8)), (splW cur l).length ≤ l.length + 1
  | [], cur => by rw [splW]; simp
  | w :: r, cur => by
    rw [splW]
    split
    · have := splW_len r []; simp only [List.length_cons]; omega
    · have := splW_len r (cur ++ [w]); simp only [List.length_cons]; omega
theorem splW_mem : ∀ (l cur : List (List UInt8)), ∀ a ∈ splW cur l, ∀ w ∈ a, w ∈ cur ∨ w ∈ l
  | [], cur, a, ha, w, hw => by
    rw [splW] at ha
    rw [List.mem_singleton.1 ha] at hw
    exact .inl hw
  | x :: r, cur, a, ha, w, hw => by
    rw [splW] at ha
    split at ha
    · rcases List.mem_cons.1 ha with rfl | ha
      · exact .inl hw
      · rcases splW_mem r [] a ha w hw with h | h
        · simp at h
        · exact .inr (List.mem_cons_of_mem _ h)
    · rcases splW_mem r (cur ++ [x]) a ha w hw with h | h
      · rcases List.mem_append.1 h with h | h
        · exact .inl h
        · rw [List.mem_singleton.1 h]; exact .inr (by simp)
      · exact .inr (List.mem_cons_of_mem _ h)
theorem chgFld_key {c c' : Chg} {x : UInt8} {w : List UInt8} {B : Nat} (h : chgFld c x w = .ok c') (hc : c.key.length ≤ B) (hw : w.length ≤ B) : c'.key.length ≤ B := by
  unfold chgFld at h
  split at h
  · split at h
    · injection h with h; subst h; exact hc
    · cases h
  · split at h
    · split at h
      · injection h with h; subst h; exact hc
      · cases h
    · split at h
      · split at h
        · rename_i b e
          injection h with h; subst h
          exact Nat.le_trans (hexW_len e) hw
        · cases h
      · split at h
        · injection h with h; subst h; exact hc
        · cases h
theorem chgFlds_key {B : Nat} (f : List UInt8) : ∀ (c c' : Chg) (ws : List (List UInt8)), chgFlds c f ws = .ok c' → c.key.length ≤ B → (∀ w ∈ ws, w.length ≤ B) → c'.key.length ≤ B := by
  induction f with
  | nil => intro c c' ws h hc _; simp only [chgFlds] at h; injection h with h; subst h; exact hc
  | cons x xs ih =>
    intro c c' ws h hc hw
    cases ws with
    | nil => simp only [chgFlds] at h; injection h with h; subst h; exact hc
    | cons w ws =>
      obtain ⟨c1, h1, h2⟩ := flds_ok h
      exact ih c1 c' ws h2 (chgFld_key h1 hc (hw w (by simp))) (fun u hu => hw u (by simp [hu]))
theorem chg_lim {ws : List (List UInt8)} {c : Chg} (h : chg ws = .ok c) (hw : ∀ w ∈ ws, w.length ≤ 2000000) : Lim c := by
  have hg := (chg_good h).1
  refine ⟨?_, hg.h, hg.l⟩
  cases ws with
  | nil => rw [chg] at h; cases h
  | cons a r =>
    rw [chg_cons] at h
    split at h
    · cases h
    · split at h
      · cases h
      · exact chgFlds_key _ _ _ _ h (by simp [chg0]) (fun u hu => hw u (by simp [hu]))
theorem chgs_lim {ws : List (List UInt8)} {l : List Chg} (h : chgs ws = .ok l) (hw : ∀ w ∈ ws, w.length ≤ 2000000) : (∀ c ∈ l, Lim c) ∧ l.length ≤ ws.length + 1 := by
  unfold chgs at h
  split at h
  · injection h with h; subst h; simp
  · refine ⟨fun c hc => ?_, ?_⟩
    · obtain ⟨a, ha, hca⟩ := mapE_mem h c hc
      exact chg_lim hca fun w hwa => by
        rcases splW_mem ws [] a ha w hwa with h1 | h1
        · simp at h1
        · exact hw w h1
    · rw [(mapE_ok h).1]; exact splW_len ws []
theorem headD_le {ws : List (List UInt8)} (hw : ∀ w ∈ ws, w.length ≤ 2000000) : (ws.headD []).length ≤ 2000000 := by
  cases ws with
  | nil => simp
  | cons a r => exact hw a (by simp)
theorem fld_lim {o o' : Opp} {c : UInt8} {ws : List (List UInt8)} (h : fld o c ws = .ok o') (hL : LimO o) (hw : ∀ w ∈ ws, w.length ≤ 2000000) (hl : ws.length ≤ 1999999) (hsec : o'.sec ≤ 9223372036854775807) : LimO o' := by
  obtain ⟨l0, l1, l2, l3, l4, l5⟩ := hL
  have hh := headD_le hw
  unfold fld at h
  split at h
  · split at h
    · rename_i b e
      injection h with h; subst h
      exact ⟨l0, Nat.le_trans (hexW_len e) hh, l2, l3, l4, l5⟩
    · cases h
  · split at h
    · split at h
      · injection h with h; subst h
        exact ⟨hsec, l1, l2, l3, l4, l5⟩
      · cases h
    · split at h
      · split at h
        · rename_i b e
          injection h with h; subst h
          exact ⟨l0, l1, l2, l3, Nat.le_trans (bitW_len e) hh, l5⟩
        · cases h
      · split at h
        · split at h
          · rename_i l e
            injection h with h; subst h
            exact ⟨l0, l1, l2, Nat.le_trans (flts_len _ ws l (Nat.le_refl _) e) (by omega), l4, l5⟩
          · cases h
        · split at h
          · split at h
            · rename_i l e
              injection h with h; subst h
              obtain ⟨g1, g2⟩ := chgs_lim e hw
              exact ⟨l0, l1, by simp only; omega, l3, l4, g1⟩
            · cases h
          · split at h
            · injection h with h; subst h
              unfold setN
              repeat' split
              all_goals exact ⟨l0, l1, l2, l3, l4, l5⟩
            · cases h
theorem fld_sec {o o' : Opp} {c : UInt8} {ws : List (List UInt8)} (h : fld o c ws = .ok o') (hs : o.sec ≤ 9223372036854775807) : o'.sec ≤ 9223372036854775807 := by
  unfold fld at h
  split at h
  · split at h
    · injection h with h; subst h; exact hs
    · cases h
  · split at h
    · split at h
      · rename_i p e
        injection h with h; subst h
        exact (prs_some (s := p.1) (n := p.2) e).2.1
      · cases h
    · split at h
      · split at h
        · injection h with h; subst h; exact hs
        · cases h
      · split at h
        · split at h
          · injection h with h; subst h; exact hs
          · cases h
        · split at h
          · split at h
            · injection h with h; subst h; exact hs
            · cases h
          · split at h
            · injection h with h; subst h
              unfold setN
              repeat' split
              all_goals exact hs
            · cases h
theorem flds_lim (f : List UInt8) : ∀ (o o' : Opp) (ws : List (List UInt8)), flds o f ws = .ok o' → LimO o → (∀ w ∈ ws, w.length ≤ 2000000) → ws.length ≤ 1999999 → LimO o' := by
  induction f with
  | nil => intro o o' ws h hL _ _; rw [flds] at h; injection h with h; subst h; exact hL
  | cons c cs ih =>
    intro o o' ws h hL hw hl
    rw [flds] at h
    split at h
    · rename_i o1 e
      exact ih o1 o' ws.tail h (fld_lim e hL hw hl (fld_sec e hL.sec)) (fun u hu => hw u (List.mem_of_mem_tail hu)) (by simp; omega)
    · cases h
theorem step_lim {ws : List (List UInt8)} {o : Opp} (h : stepS ws = .ok o) (hw : ∀ w ∈ ws, w.length ≤ 2000000) (hl : ws.length ≤ 1999999) : LimO o := by
  cases ws with
  | nil => rw [stepS] at h; cases h
  | cons a r =>
    rw [stepS_cons] at h
    split at h
    · cases h
    · split at h
      · cases h
      · exact flds_lim _ _ _ _ h ⟨by simp [opp0], by simp [opp0], by simp [opp0], by simp [opp0], by simp [opp0], by simp [opp0]⟩ (fun u hu => hw u (by simp [hu])) (by simp at hl; omega)
theorem line_lim {st st' : Option Int × List Opp} {line : List UInt8} (h : lineS st line = .ok st') (hl : line.length ≤ 1048576) (hs : ∀ o ∈ st.2, LimO o) : ∀ o ∈ st'.2, LimO o := by
  unfold lineS at h
  split at h
  · cases h
  · injection h with h; subst h; exact hs
  · rename_i w ws e
    have h1 := wds_le line.length line [] (w :: ws) (by simp) e
    have h2 := wds_len line [] (w :: ws) e
    split at h
    · split at h
      · cases h
      · injection h with h; subst h; exact hs
    · split at h
      · cases h
      · split at h
        · cases h
        · rename_i o e2
          injection h with h; subst h
          intro p hp
          rcases List.mem_append.1 hp with hp | hp
          · exact hs p hp
          · rw [List.mem_singleton.1 hp]
            exact step_lim e2 (fun u hu => by have := h1 u hu; omega) (by omega)
theorem goL_lim : ∀ (ls : List (List UInt8)) (st st' : Option Int × List Opp) (no : Nat), goL st no ls = .ok st' → (∀ a ∈ ls, a.length ≤ 1048576) → (∀ o ∈ st.2, LimO o) → ∀ o ∈ st'.2, LimO o
  | [], st, st', no, h, _, hs => by rw [goL] at h; injection h with h; subst h; exact hs
  | l :: r, st, st', no, h, hl, hs => by
    rw [goL] at h
    split at h
    · cases h
    · rename_i s1 e
      exact goL_lim r s1 st' _ h (fun a ha => hl a (by simp [ha])) (line_lim e (hl l (by simp)) hs)
theorem split_le (s : UInt8) : ∀ t : List UInt8, ∀ a ∈ split s t, a.length ≤ t.length
  | [], a, ha => by
    rw [split] at ha
    rw [List.mem_singleton.1 ha]; simp
  | c :: r, a, ha => by
    have ih := split_le s r
    rw [split] at ha
    split at ha
    · rcases List.mem_cons.1 ha with rfl | ha
      · simp
      · have := ih a ha; simp only [List.length_cons]; omega
    · split at ha
      · rw [List.mem_singleton.1 ha]; simp
      · rename_i b bs e
        rcases List.mem_cons.1 ha with rfl | ha
        · have := ih b (by rw [e]; simp); simp only [List.length_cons]; omega
        · have := ih a (by rw [e]; simp [ha]); simp only [List.length_cons]; omega
theorem parse_lim {t : List UInt8} {n : Int} {l : List Opp} (h : parseS t = .ok (n, l)) : (∀ o ∈ l, LimO o) ∧ l.length ≤ 2000 := by
  refine ⟨?_, (parse_fair h).2.1⟩
  unfold parseS at h
  split at h
  · cases h
  · rename_i hs
    split at h
    · cases h
    · cases h
    · rename_i n2 l2 e
      injection h with h
      injection h with h1 h2
      subst h2
      exact goL_lim _ _ _ _ e (fun a ha => Nat.le_trans (split_le 10 t a ha) (by omega)) (by simp)
end Go.Proofs.YtpkmekdpmkfcdaaGreatDoor.Sr
