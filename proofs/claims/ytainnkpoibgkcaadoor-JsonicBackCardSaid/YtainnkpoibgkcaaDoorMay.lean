/- jsonic in plain Lean: what is parsed may be printed. Conditions: none. -/
import Derived.Test.YtainnkpoibgkcaaDoorGivenX
import Derived.Lib.AtoiTie
namespace Go.Proofs.YtainnkpoibgkcaaDoor
set_option linter.unusedVariables false
set_option linter.unusedSimpArgs false
open Go.RowKit Go.Proofs.YtainnkpoibgkcaaDoor.PAll Go.Proofs.YtainnkpoibgkcaaDoorW.PrintWords Go.Proofs.YtainnkpoibgkcaaDoorW.PrintLast
namespace Js
def sh (n : Int) (x : S38) : S38 := ⟨x.f0, x.f1, x.f2, x.f3 + n⟩
/-- What may follow: nothing, or a blank first. -/
def Beh (e : List UInt8) : Prop := e = [] ∨ ∃ c r, e = c :: r ∧ bl.contains c = true
theorem pl_ext {N N' n : Nat} {l e : List UInt8} (hN : N' = N + n + e.length) (hl : l.length ≤ N) : pl N' (l ++ e) = pl N l + (n : Int) := by
  unfold pl; rw [List.length_append]; omega
theorem skip_ext {l e : List UInt8} (h : skip l ≠ []) : skip (l ++ e) = skip l ++ e := by
  unfold skip at *
  rw [List.dropWhile_append]
  rw [if_neg]
  simpa using h
theorem digs_ext {l e : List UInt8} (he : Beh e) : digs (l ++ e) = digs l := by
  unfold digs
  have h0 : e.takeWhile (dg.contains ·) = [] := by
    rcases he with rfl | ⟨c, r, rfl, hc⟩
    · rfl
    · rw [List.takeWhile_cons, if_neg]
      have : c = 9 ∨ c = 10 ∨ c = 13 ∨ c = 32 := by simpa [bl] using hc
      rcases this with rfl | rfl | rfl | rfl <;> decide
  rw [List.takeWhile_append]
  split
  · rename_i h; rw [h0, List.append_nil]
    exact ((List.takeWhile_prefix _).eq_of_length h).symm
  · rfl
theorem sign_ext {r e : List UInt8} {p : UInt8 × Nat} (h : sign r = some p) : sign (r ++ e) = some p := by
  cases r with
  | nil => cases h
  | cons c r =>
    simp only [sign, List.cons_append] at h ⊢
    cases hc : esc c with
    | some m => rw [hc] at h; exact h
    | none =>
      rw [hc] at h
      simp only at h ⊢
      split at h
      · rename_i h4
        have ht : (r ++ e).take 4 = r.take 4 := List.take_append_of_le_length h4.2.1
        rw [ht, if_pos ⟨h4.1, by rw [List.length_append]; omega, h4.2.2.1, h4.2.2.2⟩]
        exact h
      · cases h
theorem txt_ext (e : List UInt8) : ∀ (n : Nat) (l acc : List UInt8) {t rest : List UInt8}, l.length ≤ n → txt l acc = .ok t rest → txt (l ++ e) acc = .ok t (rest ++ e)
  | n, [], acc, t, rest, _, h => by rw [txt] at h; cases h
  | 0, c :: r, acc, t, rest, hn, h => by simp at hn
  | n + 1, c :: r, acc, t, rest, hn, h => by
    rw [txt] at h
    rw [List.cons_append, txt]
    by_cases h1 : c = 34
    · rw [if_pos h1] at h ⊢
      cases h; rfl
    · rw [if_neg h1] at h ⊢
      by_cases h2 : c = 92
      · rw [if_pos h2] at h ⊢
        split at h
        · cases h
        · rename_i m k hs
          have hs2 := sign_ext (e := e) hs
          have hp := sign_pos hs
          split
          · rename_i h3; rw [hs2] at h3; cases h3
          · rename_i m2 k2 h3
            rw [hs2] at h3
            cases h3
            rw [List.drop_append_of_le_length hp.2]
            exact txt_ext e n _ _ (by rw [List.length_drop]; simp at hn; omega) h
      · rw [if_neg h2] at h ⊢
        split at h
        · cases h
        · rename_i h3
          rw [if_neg h3]
          exact txt_ext e n r _ (by simp at hn; omega) h
section
variable {N N' n : Nat} {e : List UInt8}
/-- A token's result, with more behind. -/
def RX (e : List UInt8) (n : Nat) (r r' : R) : Prop := ∀ wt l st its, r = .go wt l st its → r' = .go wt (l ++ e) st (its.map (sh n))
theorem number_ext (hN : N' = N + n + e.length) (he : Beh e) {l st : List UInt8} {its : List S38} (hl : l.length ≤ N) : RX e n (number N l st its) (number N' (l ++ e) st (its.map (sh n))) := by
  intro wt l2 st2 its2 h
  unfold number at h ⊢
  rw [digs_ext he]
  cases hn : num (digs l) with
  | none => rw [hn] at h; cases h
  | some k =>
    rw [hn] at h
    simp only [R.go.injEq] at h ⊢
    obtain ⟨rfl, rfl, rfl, rfl⟩ := h
    refine ⟨rfl, List.drop_append_of_le_length (digs_le l), rfl, ?_⟩
    rw [List.map_append, pl_ext hN hl]; rfl
theorem text_ext (hN : N' = N + n + e.length) {kd : Int} {l r st : List UInt8} {its : List S38} (hl : l.length ≤ N) : RX e n (text N kd l r st its) (text N' kd (l ++ e) (r ++ e) st (its.map (sh n))) := by
  intro wt l2 st2 its2 h
  unfold text at h ⊢
  cases ht : txt r [] with
  | bad rest => rw [ht] at h; cases h
  | ok t rest =>
    rw [ht] at h
    rw [txt_ext e _ r [] (Nat.le_refl _) ht]
    simp only [R.go.injEq] at h ⊢
    obtain ⟨rfl, rfl, rfl, rfl⟩ := h
    refine ⟨rfl, rfl, rfl, ?_⟩
    rw [List.map_append, pl_ext hN hl]; rfl
theorem begin_ext (hN : N' = N + n + e.length) {c : UInt8} {l r st : List UInt8} {its : List S38} (hl : l.length ≤ N) (hr : skip r ≠ []) : RX e n (begin_ N c l r st its) (begin_ N' c (l ++ e) (r ++ e) st (its.map (sh n))) := by
  intro wt l2 st2 its2 h
  unfold begin_ at h ⊢
  split at h
  · cases h
  · rename_i h16
    rw [if_neg h16, skip_ext hr]
    simp only [R.go.injEq] at h ⊢
    obtain ⟨rfl, rfl, rfl, rfl⟩ := h
    refine ⟨?_, rfl, rfl, ?_⟩
    · unfold nxOf
      rw [skip_ext hr]
      cases hs : skip r with
      | nil => exact absurd hs hr
      | cons a b => rfl
    · rw [List.map_append, pl_ext hN hl]; rfl
theorem num_nil : num [] = none := by kernel_rfl
theorem value_nil (N : Nat) (st : List UInt8) (its : List S38) : value N [] st its = .bad (pl N []) 190 := by
  show number N [] st its = _
  unfold number
  rw [show digs [] = [] from rfl, num_nil]
/-- A list or an object that nothing follows is not whole. -/
theorem run_nil (k : Nat) (wt : Int) (en : UInt8) (st : List UInt8) (its : List S38) (l' : List UInt8) (its' : List S38) : run N k wt [] (en :: st) its ≠ some (.ok l' its') := by
  intro h
  cases k with
  | zero => simp [run] at h
  | succ k =>
    by_cases h0 : wt = 0
    · subst h0
      rw [run_value] at h
      rw [value_nil] at h
      simp [next] at h
    · by_cases h1 : wt = 1
      · subst h1
        rw [run_key] at h
        simp [key, skip, key_, next] at h
      · rw [run_more _ _ h0 h1, if_neg (by simp)] at h
        simp [more, skip, more_, next] at h
theorem value_ext (hN : N' = N + n + e.length) (he : Beh e) {l st : List UInt8} {its : List S38} (hl : l.length ≤ N) {wt : Int} {l2 st2 : List UInt8} {its2 : List S38} (h : value N l st its = .go wt l2 st2 its2) (hc : l2 ≠ [] ∨ st2 = []) :
    value N' (l ++ e) st (its.map (sh n)) = .go wt (l2 ++ e) st2 (its2.map (sh n)) := by
  have hsl := skip_le l
  cases hs : skip l with
  | nil =>
    unfold value at h
    rw [hs] at h
    have := value_nil N st its
    unfold value at this
    rw [show skip [] = [] from rfl] at this
    rw [this] at h; cases h
  | cons c r =>
    rw [hs] at hsl
    unfold value at h ⊢
    rw [skip_ext (by rw [hs]; simp), hs]
    rw [hs] at h
    simp only [value_, List.cons_append] at h ⊢
    by_cases h34 : c = 34
    · rw [if_pos h34] at h ⊢
      exact text_ext hN (l := c :: r) (by omega) _ _ _ _ h
    · rw [if_neg h34] at h ⊢
      by_cases hb : c = 91 ∨ c = 123
      · rw [if_pos hb] at h ⊢
        have hr : skip r ≠ [] := by
          intro hr
          unfold begin_ at h
          split at h
          · cases h
          · simp only [R.go.injEq] at h
            rcases hc with hc | hc
            · exact hc (by rw [← h.2.1]; exact hr)
            · rw [← h.2.2.1] at hc; cases hc
        exact begin_ext hN (l := c :: r) (by omega) hr _ _ _ _ h
      · rw [if_neg hb] at h ⊢
        exact number_ext hN he (l := c :: r) (by omega) _ _ _ _ h
theorem key_ext (hN : N' = N + n + e.length) {l st : List UInt8} {its : List S38} (hl : l.length ≤ N) : RX e n (key N l st its) (key N' (l ++ e) st (its.map (sh n))) := by
  intro wt l2 st2 its2 h
  have hsl := skip_le l
  cases hs : skip l with
  | nil => unfold key at h; rw [hs] at h; cases h
  | cons c r =>
    rw [hs] at hsl
    unfold key at h ⊢
    rw [skip_ext (by rw [hs]; simp), hs]
    rw [hs] at h
    simp only [key_, List.cons_append] at h ⊢
    split at h
    · rename_i h34
      rw [if_pos h34]
      cases ht : txt r [] with
      | bad rest => rw [ht] at h; cases h
      | ok t rest =>
        rw [ht] at h
        rw [txt_ext e _ r [] (Nat.le_refl _) ht]
        simp only at h ⊢
        cases hs2 : skip rest with
        | nil => rw [hs2] at h; cases h
        | cons c2 r2 =>
          rw [skip_ext (by rw [hs2]; simp), hs2]
          rw [hs2] at h
          simp only [colon, List.cons_append] at h ⊢
          split at h
          · rename_i h58
            rw [if_pos h58]
            simp only [R.go.injEq] at h ⊢
            obtain ⟨rfl, rfl, rfl, rfl⟩ := h
            refine ⟨rfl, rfl, rfl, ?_⟩
            have := pl_ext (l := c :: r) hN (by omega)
            simp only [List.cons_append] at this
            rw [List.map_append, this]; rfl
          · cases h
    · cases h
theorem more_ext (hN : N' = N + n + e.length) {l st : List UInt8} {its : List S38} (hl : l.length ≤ N) : RX e n (more N l st its) (more N' (l ++ e) st (its.map (sh n))) := by
  intro wt l2 st2 its2 h
  cases st with
  | nil => cases h
  | cons en st =>
    have hsl := skip_le l
    cases hs : skip l with
    | nil => unfold more at h; simp only at h; rw [hs] at h; cases h
    | cons c r =>
      rw [hs] at hsl
      unfold more at h ⊢
      simp only at h ⊢
      rw [skip_ext (by rw [hs]; simp), hs]
      rw [hs] at h
      simp only [more_, List.cons_append] at h ⊢
      by_cases h1 : c = en
      · rw [if_pos h1] at h ⊢
        simp only [R.go.injEq] at h ⊢
        obtain ⟨rfl, rfl, rfl, rfl⟩ := h
        refine ⟨rfl, rfl, rfl, ?_⟩
        have := pl_ext (l := c :: r) hN (by omega)
        simp only [List.cons_append] at this
        rw [List.map_append, this]; rfl
      · rw [if_neg h1] at h ⊢
        split at h
        · rename_i h2
          rw [if_pos h2]
          simp only [R.go.injEq] at h ⊢
          obtain ⟨rfl, rfl, rfl, rfl⟩ := h
          exact ⟨rfl, rfl, rfl, rfl⟩
        · cases h
theorem run_ext (hN : N' = N + n + e.length) (he : Beh e) : ∀ (k : Nat) (wt : Int) (l st : List UInt8) (its : List S38) (l' : List UInt8) (its' : List S38), l.length ≤ N → run N k wt l st its = some (.ok l' its') → run N' k wt (l ++ e) st (its.map (sh n)) = some (.ok (l' ++ e) (its'.map (sh n)))
  | 0, wt, l, st, its, l', its', _, h => by simp [run] at h
  | k + 1, wt, l, st, its, l', its', hl, h => by
    by_cases h0 : wt = 0
    · subst h0
      rw [run_value] at h ⊢
      cases hv : value N l st its with
      | bad a c => rw [hv] at h; simp [next] at h
      | go wt2 l2 st2 its2 =>
        rw [hv] at h
        simp only [next] at h
        have hc : l2 ≠ [] ∨ st2 = [] := by
          cases st2 with
          | nil => exact .inr rfl
          | cons en s2 =>
            refine .inl fun h2 => ?_
            subst h2
            exact run_nil k wt2 en s2 its2 l' its' h
        rw [value_ext hN he hl hv hc]
        simp only [next]
        exact run_ext hN he k wt2 l2 st2 its2 l' its' (by have := value_short hv; omega) h
    · by_cases h1 : wt = 1
      · subst h1
        rw [run_key] at h ⊢
        cases hv : key N l st its with
        | bad a c => rw [hv] at h; simp [next] at h
        | go wt2 l2 st2 its2 =>
          rw [hv] at h
          rw [key_ext hN hl _ _ _ _ hv]
          simp only [next] at h ⊢
          exact run_ext hN he k wt2 l2 st2 its2 l' its' (by have := key_short hv; omega) h
      · rw [run_more _ _ h0 h1] at h ⊢
        split at h
        · rename_i hst
          rw [if_pos hst]
          simp only [Option.some.injEq, Fin.ok.injEq] at h ⊢
          obtain ⟨rfl, rfl⟩ := h
          exact ⟨rfl, rfl⟩
        · rename_i hst
          rw [if_neg hst]
          cases hv : more N l st its with
          | bad a c => rw [hv] at h; simp [next] at h
          | go wt2 l2 st2 its2 =>
            rw [hv] at h
            rw [more_ext hN hl _ _ _ _ hv]
            simp only [next] at h ⊢
            exact run_ext hN he k wt2 l2 st2 its2 l' its' (by have := more_short hv; omega) h
theorem run_mono : ∀ (k : Nat) (wt : Int) (l st : List UInt8) (its : List S38) (F : Fin), run N k wt l st its = some F → run N (k + 1) wt l st its = some F
  | 0, wt, l, st, its, F, h => by simp [run] at h
  | k + 1, wt, l, st, its, F, h => by
    have hn : ∀ r, next N k r = some F → next N (k + 1) r = some F := fun r h => by
      cases r with
      | bad a c => exact h
      | go wt l st its => exact run_mono k wt l st its F h
    by_cases h0 : wt = 0
    · subst h0; rw [run_value] at h ⊢; exact hn _ h
    · by_cases h1 : wt = 1
      · subst h1; rw [run_key] at h ⊢; exact hn _ h
      · rw [run_more _ _ h0 h1] at h ⊢
        split at h
        · rename_i hst; rw [if_pos hst]; exact h
        · rename_i hst; rw [if_neg hst]; exact hn _ h
theorem run_more_fuel {k k' : Nat} (hk : k ≤ k') {wt : Int} {l st : List UInt8} {its : List S38} {F : Fin} (h : run N k wt l st its = some F) : run N k' wt l st its = some F := by
  induction hk with
  | refl => exact h
  | step _ ih => exact run_mono _ _ _ _ _ _ ih
end
theorem skip_blank {b : List UInt8} (hb : b.all (bl.contains ·) = true) (l : List UInt8) : skip (b ++ l) = skip l := by
  unfold skip
  rw [List.dropWhile_append_of_pos (fun x hx => List.all_eq_true.1 hb x hx)]
theorem skip_all {l : List UInt8} (h : skip l = []) : l.all (bl.contains ·) = true := by
  induction l with
  | nil => rfl
  | cons c l ih =>
    unfold skip at h ih
    rw [List.dropWhile_cons] at h
    split at h
    · rename_i hc
      rw [List.all_cons, hc, ih h]; rfl
    · cases h
/-- What a text parses to, with blanks ahead, and more behind. -/
theorem parse_moved {s l : List UInt8} {its : List S38} (h : parse s = .ok l its) {b e : List UInt8} (hb : b.all (bl.contains ·) = true) (he : Beh e) :
    parse (b ++ s ++ e) = if skip e = [] then .ok [] (its.map (sh b.length)) else .bad (pl (b ++ s ++ e).length (skip e)) 190 := by
  unfold parse at h
  obtain ⟨F, hF⟩ := run_some s.length (s.length + 1) 0 s [] [] (Nat.lt_succ_self _)
  rw [hF] at h
  cases F with
  | bad a c => cases h
  | ok l2 its2 =>
    simp only [fin] at h
    split at h
    · rename_i hsk
      simp only [Fin.ok.injEq] at h
      obtain ⟨_, rfl⟩ := h
      have hN : (b ++ s ++ e).length = s.length + b.length + e.length := by simp only [List.length_append]; omega
      have hx := run_ext hN he (s.length + 1) 0 s [] [] l2 its2 (Nat.le_refl _) hF
      have hy : run (b ++ s ++ e).length (s.length + 1) 0 (b ++ s ++ e) [] [] = some (.ok (l2 ++ e) (its2.map (sh b.length))) := by
        rw [run_value] at hx ⊢
        have hv : value (b ++ s ++ e).length (b ++ s ++ e) [] [] = value (b ++ s ++ e).length (s ++ e) [] (([] : List S38).map (sh b.length)) := by
          unfold value
          rw [List.append_assoc, skip_blank hb]; rfl
        rw [hv]; exact hx
      have hz := run_more_fuel (k' := (b ++ s ++ e).length + 1) (by omega) hy
      unfold parse
      rw [hz]
      simp only [fin]
      rw [skip_blank (skip_all hsk)]
    · cases h
/-- What is wrong is told by one of two numbers. -/
theorem run_code (N : Nat) : ∀ (k : Nat) (wt : Int) (l st : List UInt8) (its : List S38) (a c : Int), run N k wt l st its = some (.bad a c) → c = 190 ∨ c = 191
  | 0, wt, l, st, its, a, c, h => by simp [run] at h
  | k + 1, wt, l, st, its, a, c, h => by
    have hn : ∀ r, (∀ a c, r = .bad a c → c = 190 ∨ c = 191) → next N k r = some (.bad a c) → c = 190 ∨ c = 191 := fun r hr h => by
      cases r with
      | bad a' c' =>
        simp only [next, Option.some.injEq, Fin.bad.injEq] at h
        rw [← h.2]; exact hr _ _ rfl
      | go wt l st its => exact run_code N k wt l st its a c h
    have hnum : ∀ l st its a c, number N l st its = .bad a c → c = 190 ∨ c = 191 := fun l st its a c h => by
      unfold number at h; split at h <;> simp at h; exact .inl h.2.symm
    have htx : ∀ kd l r st its a c, text N kd l r st its = .bad a c → c = 190 ∨ c = 191 := fun kd l r st its a c h => by
      unfold text at h; split at h <;> simp at h; exact .inl h.2.symm
    by_cases h0 : wt = 0
    · subst h0; rw [run_value] at h
      refine hn _ (fun a c hv => ?_) h
      unfold value at hv
      cases hs : skip l with
      | nil => rw [hs] at hv; exact hnum [] st its _ _ hv
      | cons x r =>
        rw [hs] at hv
        simp only [value_] at hv
        split at hv
        · exact htx _ _ _ _ _ _ _ hv
        · split at hv
          · unfold begin_ at hv
            split at hv
            · simp only [R.bad.injEq] at hv; exact .inr hv.2.symm
            · cases hv
          · exact hnum _ _ _ _ _ hv
    · by_cases h1 : wt = 1
      · subst h1; rw [run_key] at h
        refine hn _ (fun a c hv => ?_) h
        unfold key at hv
        cases hs : skip l with
        | nil => rw [hs] at hv; simp only [key_, R.bad.injEq] at hv; exact .inl hv.2.symm
        | cons x r =>
          rw [hs] at hv
          simp only [key_] at hv
          split at hv
          · split at hv
            · rename_i t rest ht
              cases hs2 : skip rest with
              | nil => rw [hs2] at hv; simp only [colon, R.bad.injEq] at hv; exact .inl hv.2.symm
              | cons y r2 =>
                rw [hs2] at hv
                simp only [colon] at hv
                split at hv
                · cases hv
                · simp only [R.bad.injEq] at hv; exact .inl hv.2.symm
            · simp only [R.bad.injEq] at hv; exact .inl hv.2.symm
          · simp only [R.bad.injEq] at hv; exact .inl hv.2.symm
      · rw [run_more _ _ h0 h1] at h
        split at h
        · cases h
        · rename_i hst
          refine hn _ (fun a c hv => ?_) h
          cases st with
          | nil => exact absurd rfl hst
          | cons en st =>
            unfold more at hv
            simp only at hv
            cases hs : skip l with
            | nil => rw [hs] at hv; simp only [more_, R.bad.injEq] at hv; exact .inl hv.2.symm
            | cons x r =>
              rw [hs] at hv
              simp only [more_] at hv
              split at hv
              · cases hv
              · split at hv
                · cases hv
                · simp only [R.bad.injEq] at hv; exact .inl hv.2.symm
theorem parse_code {s : List UInt8} {a c : Int} (h : parse s = .bad a c) : c = 190 ∨ c = 191 := by
  unfold parse at h
  obtain ⟨F, hF⟩ := run_some s.length (s.length + 1) 0 s [] [] (Nat.lt_succ_self _)
  rw [hF] at h
  cases F with
  | bad a' c' =>
    simp only [fin, Fin.bad.injEq] at h
    rw [← h.2]; exact run_code _ _ _ _ _ _ _ _ hF
  | ok l its =>
    simp only [fin] at h
    split at h
    · cases h
    · simp only [Fin.bad.injEq] at h; exact .inl h.2.symm
end Js
end Go.Proofs.YtainnkpoibgkcaaDoor
namespace Go.Proofs.YtainnkpoibgkcaaDoor
set_option linter.unusedVariables false
set_option linter.unusedSimpArgs false
open Go.RowKit Go.Proofs.YtainnkpoibgkcaaDoor.PAll Go.Proofs.YtainnkpoibgkcaaDoorW.PrintWords Go.Proofs.YtainnkpoibgkcaaDoorW.PrintLast
namespace Js
theorem txt_quote (r acc : List UInt8) : txt (34 :: r) acc = .ok acc r := by rw [txt, if_pos rfl]
theorem txt_esc {s : List UInt8} {m : UInt8} {n : Nat} (h : sign s = some (m, n)) (acc : List UInt8) : txt (92 :: s) acc = txt (s.drop n) (acc ++ [m]) := by
  rw [txt, if_neg (by decide), if_pos rfl]
  split
  · rename_i h2; rw [h] at h2; cases h2
  · rename_i m2 n2 h2; rw [h] at h2; cases h2; rfl
theorem txt_esc_bad {s : List UInt8} (h : sign s = none) (acc : List UInt8) : txt (92 :: s) acc = .bad (92 :: s) := by
  rw [txt, if_neg (by decide), if_pos rfl]
  split
  · rfl
  · rename_i m2 n2 h2; rw [h] at h2; cases h2
theorem txt_plain {c : UInt8} (h1 : c ≠ 34) (h2 : c ≠ 92) (h3 : ¬ (c < 32 ∨ 126 < c)) (r acc : List UInt8) : txt (c :: r) acc = txt r (acc ++ [c]) := by
  rw [txt, if_neg h1, if_neg h2, if_neg h3]
theorem hex_hx : ∀ a : _root_.Fin 16, isHex (hx a.val) = true := by decide
theorem hexN_hx : ∀ a b : _root_.Fin 16, hexN 0 [48, 48, hx a.val, hx b.val] = 16 * a.val + b.val := by decide
theorem sign_u {c : UInt8} (hc : c < 128) (r : List UInt8) : sign (117 :: 48 :: 48 :: hx (c.toNat / 16) :: hx (c.toNat % 16) :: r) = some (c, 5) := by
  have hl : c.toNat < 128 := UInt8.lt_iff_toNat_lt.1 hc
  have h1 := hex_hx ⟨c.toNat / 16, by omega⟩
  have h2 := hex_hx ⟨c.toNat % 16, by omega⟩
  have h3 := hexN_hx ⟨c.toNat / 16, by omega⟩ ⟨c.toNat % 16, by omega⟩
  simp only at h1 h2 h3
  have h4 : 16 * (c.toNat / 16) + c.toNat % 16 = c.toNat := by omega
  rw [h4] at h3
  simp only [sign, show esc 117 = none from rfl]
  rw [if_pos]
  · simp only [List.take_succ_cons, List.take_zero, h3]
    rw [UInt8.ofNat_toNat]
  · refine ⟨by first | rfl | trivial, by simp, ?_, ?_⟩
    · simp only [List.take_succ_cons, List.take_zero, List.all_cons, List.all_nil, h1, h2, Bool.and_true]; decide
    · simp only [List.take_succ_cons, List.take_zero, h3]; exact hl
/-- The ways of a byte in quotes. -/
theorem q1_cases (c : UInt8) (hc : c < 128) : (∃ d, q1 c = [92, d] ∧ esc d = some c) ∨ q1 c = [92, 117, 48, 48, hx (c.toNat / 16), hx (c.toNat % 16)] ∨ (q1 c = [c] ∧ c ≠ 34 ∧ c ≠ 92 ∧ ¬ (c < 32 ∨ 126 < c)) := by
  unfold q1
  by_cases h1 : c = 34
  · subst h1; exact .inl ⟨34, rfl, rfl⟩
  rw [if_neg h1]
  by_cases h2 : c = 92
  · subst h2; exact .inl ⟨92, rfl, rfl⟩
  rw [if_neg h2]
  by_cases h3 : c = 10
  · subst h3; exact .inl ⟨110, rfl, rfl⟩
  rw [if_neg h3]
  by_cases h4 : c = 13
  · subst h4; exact .inl ⟨114, rfl, rfl⟩
  rw [if_neg h4]
  by_cases h5 : c = 9
  · subst h5; exact .inl ⟨116, rfl, rfl⟩
  rw [if_neg h5]
  by_cases h6 : c < 32 ∨ c = 127
  · rw [if_pos h6]; exact .inr (.inl rfl)
  · rw [if_neg h6]
    refine .inr (.inr ⟨rfl, h1, h2, fun h => h6 ?_⟩)
    rcases h with h | h
    · exact .inl h
    · refine .inr ?_
      have ha := UInt8.lt_iff_toNat_lt.1 h
      have hb := UInt8.lt_iff_toNat_lt.1 hc
      have e1 : (126 : UInt8).toNat = 126 := rfl
      have e2 : (128 : UInt8).toNat = 128 := rfl
      exact UInt8.toNat_inj.1 (show c.toNat = 127 by omega)
theorem sign_esc1 {d c : UInt8} (h : esc d = some c) (r : List UInt8) : sign (d :: r) = some (c, 1) := by simp only [sign, h]
theorem txt_q1 {c : UInt8} (hc : c < 128) (r acc : List UInt8) : txt (q1 c ++ r) acc = txt r (acc ++ [c]) := by
  rcases q1_cases c hc with ⟨d, h, he⟩ | h | ⟨h, h1, h2, h3⟩
  · rw [h]
    show txt (92 :: (d :: r)) acc = _
    rw [txt_esc (sign_esc1 he r)]; rfl
  · rw [h]
    show txt (92 :: (117 :: 48 :: 48 :: hx (c.toNat / 16) :: hx (c.toNat % 16) :: r)) acc = _
    rw [txt_esc (sign_u hc r)]; rfl
  · rw [h]; exact txt_plain h1 h2 h3 r acc
theorem txt_qall : ∀ (t : List UInt8), (∀ c ∈ t, c < 128) → ∀ r acc, txt (qall t ++ r) acc = txt r (acc ++ t)
  | [], _, r, acc => by simp [qall]
  | c :: t, h, r, acc => by
    rw [show qall (c :: t) ++ r = q1 c ++ (qall t ++ r) by simp [qall], txt_q1 (h c List.mem_cons_self), txt_qall t (fun x hx => h x (List.mem_cons_of_mem _ hx))]
    simp
/-- A text in quotes, behind its first one. -/
theorem txt_back {t : List UInt8} (h : ∀ c ∈ t, c < 128) (r : List UInt8) : txt (qall t ++ 34 :: r) [] = .ok t r := by
  rw [txt_qall t h, txt_quote]; rfl
theorem pre_append {p a b : List UInt8} (h : p <+: a ++ b) : p <+: a ∨ ∃ p', p = a ++ p' ∧ p' <+: b := by
  obtain ⟨t, ht⟩ := h
  rcases Nat.le_total p.length a.length with hl | hl
  · refine .inl ?_
    have h1 := congrArg (List.take p.length) ht
    rw [List.take_left, List.take_append_of_le_length hl] at h1
    rw [h1]; exact List.take_prefix _ _
  · refine .inr ⟨p.drop a.length, ?_, t, ?_⟩
    · have h1 := congrArg (List.take a.length) ht
      rw [List.take_append_of_le_length hl, List.take_left] at h1
      exact (List.take_append_drop a.length p).symm.trans (by rw [h1])
    · have h1 := congrArg (List.drop a.length) ht
      rw [List.drop_append_of_le_length hl, List.drop_left] at h1
      exact h1
theorem sign_short {r : List UInt8} (h : r.length < 4) : sign (117 :: r) = none := by
  simp only [sign, show esc 117 = none from rfl]
  rw [if_neg]
  rintro ⟨_, h2, _⟩
  omega
/-- Cut off, it is none. -/
theorem txt_cut : ∀ (t : List UInt8), (∀ c ∈ t, c < 128) → ∀ p acc, p <+: qall t → ∃ rest, txt p acc = .bad rest ∧ rest <:+ p
  | [], _, p, acc, hp => by
    have : p = [] := by simpa [qall] using hp
    subst this; exact ⟨[], by rw [txt], List.suffix_refl _⟩
  | c :: t, h, p, acc, hp => by
    rw [show qall (c :: t) = q1 c ++ qall t by simp [qall]] at hp
    rcases pre_append hp with hp | ⟨p', rfl, hp'⟩
    · have hcc := h c List.mem_cons_self
      have hfull : ∃ rest, txt (q1 c) acc = .bad rest ∧ rest <:+ q1 c := ⟨[], by
        have := txt_q1 hcc [] acc
        rw [List.append_nil] at this
        rw [this, txt], List.nil_suffix⟩
      by_cases hlen : p.length = (q1 c).length
      · rw [hp.eq_of_length hlen]; exact hfull
      · have hlt : p.length < (q1 c).length := Nat.lt_of_le_of_ne hp.length_le hlen
        cases p with
        | nil => exact ⟨[], by rw [txt], List.suffix_refl _⟩
        | cons a p =>
          rcases q1_cases c hcc with ⟨d, h1, he⟩ | h1 | ⟨h1, _⟩
          · rw [h1] at hp hlt
            simp only [List.length_cons, List.length_nil] at hlt
            have hp0 : p = [] := List.eq_nil_of_length_eq_zero (by omega)
            subst hp0
            have ha : a = 92 := by obtain ⟨u, hu⟩ := hp; simp at hu; exact hu.1
            subst ha
            exact ⟨_, txt_esc_bad rfl acc, List.suffix_refl _⟩
          · rw [h1] at hp hlt
            simp only [List.length_cons, List.length_nil] at hlt
            have ha : a = 92 := by obtain ⟨u, hu⟩ := hp; simp at hu; exact hu.1
            subst ha
            cases p with
            | nil => exact ⟨_, txt_esc_bad rfl acc, List.suffix_refl _⟩
            | cons b p =>
              have hb : b = 117 := by obtain ⟨u, hu⟩ := hp; simp at hu; exact hu.1
              subst hb
              simp only [List.length_cons] at hlt
              exact ⟨_, txt_esc_bad (sign_short (by omega)) acc, List.suffix_refl _⟩
          · rw [h1] at hlt
            simp at hlt
    · rw [txt_q1 (h c List.mem_cons_self)]
      obtain ⟨rest, h1, h2⟩ := txt_cut t (fun x hx => h x (List.mem_cons_of_mem _ hx)) p' (acc ++ [c]) hp'
      exact ⟨rest, h1, h2.trans (List.suffix_append _ _)⟩
end Js
end Go.Proofs.YtainnkpoibgkcaaDoor
namespace Go.Proofs.YtainnkpoibgkcaaDoor
set_option linter.unusedVariables false
set_option linter.unusedSimpArgs false
open Go.RowKit Go.Proofs.YtainnkpoibgkcaaDoor.PAll Go.Proofs.YtainnkpoibgkcaaDoorW.PrintWords Go.Proofs.YtainnkpoibgkcaaDoorW.PrintLast
namespace Js
theorem decFrom_app : ∀ (a b : List UInt8) (n : Nat), Lib.decFrom n (a ++ b) = (Lib.decFrom n a).bind fun m => Lib.decFrom m b
  | [], b, n => rfl
  | c :: a, b, n => by
    simp only [List.cons_append, Lib.decFrom]
    cases Lib.digitVal c with
    | none => rfl
    | some d => exact decFrom_app a b _
theorem digit_byte (d : Nat) (h : d < 10) : (UInt8.ofNat (48 + d)).toNat = 48 + d := by rw [UInt8.toNat_ofNat', Nat.mod_eq_of_lt (by omega)]
theorem digit_val (d : Nat) (h : d < 10) : Lib.digitVal (UInt8.ofNat (48 + d)) = some d := by
  unfold Lib.digitVal; rw [digit_byte d h, if_pos (by omega)]; congr 1; omega
theorem decFrom_digits (n : Nat) : Lib.decFrom 0 (Lib.decDigits n) = some n := by
  induction n using Nat.strongRecOn with
  | _ n ih =>
    by_cases h : n < 10
    · rw [Lib.decDigits_one h]; simp only [Lib.decFrom, digit_val n h]; simp
    · rw [Lib.decDigits, dif_neg h, decFrom_app, ih (n / 10) (by omega)]
      simp only [Option.bind_some, Lib.decFrom, digit_val (n % 10) (by omega)]
      congr 1; omega
theorem decDigits_short : ∀ (j n : Nat), n < 10 ^ (j + 1) → (Lib.decDigits n).length ≤ j + 1
  | 0, n, h => by rw [Lib.decDigits_one (by omega)]; simp
  | j + 1, n, h => by
    by_cases h10 : n < 10
    · rw [Lib.decDigits_one h10]; simp
    · rw [Lib.decDigits, dif_neg h10, List.length_append]
      have := decDigits_short j (n / 10) (by rw [Nat.pow_succ] at h; omega)
      simp; omega
theorem decDigits_head (n : Nat) : ∃ c r, Lib.decDigits n = c :: r ∧ ∀ x ∈ Lib.decDigits n, 48 ≤ x.toNat ∧ x.toNat ≤ 57 := by
  induction n using Nat.strongRecOn with
  | _ n ih =>
    by_cases h : n < 10
    · rw [Lib.decDigits_one h]
      exact ⟨_, _, rfl, fun x hx => by rw [List.mem_singleton.1 hx, digit_byte n h]; omega⟩
    · rw [Lib.decDigits, dif_neg h]
      obtain ⟨c, r, h1, h2⟩ := ih (n / 10) (by omega)
      refine ⟨c, r ++ [UInt8.ofNat (48 + n % 10)], by rw [h1]; rfl, fun x hx => ?_⟩
      rcases List.mem_append.1 hx with hx | hx
      · exact h2 x hx
      · rw [List.mem_singleton.1 hx, digit_byte (n % 10) (by omega)]; omega
theorem decNat_digits (n : Nat) : Lib.decNat (Lib.decDigits n) = some n := by
  obtain ⟨c, r, h, _⟩ := decDigits_head n
  unfold Lib.decNat
  rw [if_neg (by rw [h]; simp), decFrom_digits]
theorem atoi_itoa (v : Int) : Lib.atoi (Lib.itoa v) = some v := by
  unfold Lib.itoa
  by_cases h : v < 0
  · rw [if_pos h]
    simp only [Lib.atoi, decNat_digits]
    simp; omega
  · rw [if_neg h]
    obtain ⟨c, r, h1, h2⟩ := decDigits_head v.toNat
    have hc := h2 c (by rw [h1]; exact List.mem_cons_self)
    have hn := decNat_digits v.toNat
    rw [h1] at hn ⊢
    have n1 : (c == 45) = false := by
      rw [beq_eq_false_iff_ne]; intro e; subst e; exact absurd hc.1 (by decide)
    have n2 : (c == 43) = false := by
      rw [beq_eq_false_iff_ne]; intro e; subst e; exact absurd hc.1 (by decide)
    simp only [Lib.atoi, n1, n2, hn]
    simp; omega
theorem itoa_dg (v : Int) : (∀ c ∈ Lib.itoa v, dg.contains c = true) := by
  have hd : ∀ c : UInt8, 48 ≤ c.toNat ∧ c.toNat ≤ 57 → dg.contains c = true := fun c hc => by
    have h : ∀ k : _root_.Fin 10, dg.contains (UInt8.ofNat (48 + k.val)) = true := by decide
    have := h ⟨c.toNat - 48, by omega⟩
    rwa [show UInt8.ofNat (48 + (c.toNat - 48)) = c by rw [show 48 + (c.toNat - 48) = c.toNat by omega, UInt8.ofNat_toNat]] at this
  intro c hc
  unfold Lib.itoa at hc
  split at hc
  · rcases List.mem_cons.1 hc with rfl | hc
    · decide
    · obtain ⟨_, _, _, h⟩ := decDigits_head v.natAbs
      exact hd c (h c hc)
  · obtain ⟨_, _, _, h⟩ := decDigits_head v.toNat
    exact hd c (h c hc)
theorem itoa_len {v : Int} (h : -100000000 ≤ v ∧ v ≤ 100000000) : (Lib.itoa v).length ≤ 18 := by
  unfold Lib.itoa
  have h1 := decDigits_short 8 v.natAbs (by have : (10 : Nat) ^ (8 + 1) = 1000000000 := by decide
                                            omega)
  have h2 := decDigits_short 8 v.toNat (by have : (10 : Nat) ^ (8 + 1) = 1000000000 := by decide
                                           omega)
  split
  · simp; omega
  · omega
theorem num_itoa {v : Int} (h : -100000000 ≤ v ∧ v ≤ 100000000) : num (Lib.itoa v) = some v := by
  unfold num
  rw [Lib.atoiAll_short _ (itoa_len h), atoi_itoa]
  simp only [Lib.NumEnd.ofOption]
  rw [if_pos ⟨trivial, h⟩]
/-- No digit goes on. -/
def Sep (e : List UInt8) : Prop := ∀ c r, e = c :: r → dg.contains c = false
theorem digs_itoa (v : Int) {e : List UInt8} (he : Sep e) : digs (Lib.itoa v ++ e) = Lib.itoa v := by
  unfold digs
  rw [List.takeWhile_append_of_pos (itoa_dg v)]
  cases e with
  | nil => simp
  | cons c r => rw [List.takeWhile_cons, he c r rfl]; simp
/-- How the text of a value begins. -/
def First (o : List UInt8) : Prop := ∃ c r, o = c :: r ∧ bl.contains c = false ∧ c ≠ 93 ∧ c ≠ 125
theorem dg_first : ∀ c ∈ dg, bl.contains c = false ∧ c ≠ 93 ∧ c ≠ 125 ∧ c ≠ 34 ∧ c ≠ 91 ∧ c ≠ 123 := by decide
theorem itoa_first (v : Int) : ∃ c r, Lib.itoa v = c :: r ∧ bl.contains c = false ∧ c ≠ 93 ∧ c ≠ 125 ∧ c ≠ 34 ∧ c ≠ 91 ∧ c ≠ 123 := by
  cases h : Lib.itoa v with
  | nil => exact absurd h (itoa_ne v)
  | cons c r =>
    have := itoa_dg v c (by rw [h]; exact List.mem_cons_self)
    exact ⟨c, r, rfl, dg_first c (List.contains_iff_mem.1 this)⟩
theorem skip_first {c : UInt8} {r : List UInt8} (h : bl.contains c = false) : skip (c :: r) = c :: r := by
  unfold skip; rw [List.dropWhile_cons, h]; simp
/-- The machine goes from here to there. -/
def Steps (N : Nat) (wt : Int) (l st : List UInt8) (its : List S38) (wt' : Int) (l' st' : List UInt8) (its' : List S38) : Prop := ∃ j, ∀ k, run N (k + j) wt l st its = run N k wt' l' st' its'
section
variable {N : Nat} {wt wt1 wt2 : Int} {l l1 l2 st st1 st2 : List UInt8} {its its1 its2 : List S38}
theorem Steps.refl : Steps N wt l st its wt l st its := ⟨0, fun k => rfl⟩
theorem Steps.trans (h1 : Steps N wt l st its wt1 l1 st1 its1) (h2 : Steps N wt1 l1 st1 its1 wt2 l2 st2 its2) : Steps N wt l st its wt2 l2 st2 its2 := by
  obtain ⟨j, hj⟩ := h1
  obtain ⟨j2, hj2⟩ := h2
  exact ⟨j2 + j, fun k => by rw [← Nat.add_assoc, hj, hj2]⟩
theorem Steps.value (h : value N l st its = .go wt1 l1 st1 its1) : Steps N 0 l st its wt1 l1 st1 its1 := ⟨1, fun k => by rw [run_value, h]; rfl⟩
theorem Steps.key (h : key N l st its = .go wt1 l1 st1 its1) : Steps N 1 l st its wt1 l1 st1 its1 := ⟨1, fun k => by rw [run_key, h]; rfl⟩
theorem Steps.more {en : UInt8} (h : more N l (en :: st) its = .go wt1 l1 st1 its1) : Steps N 2 l (en :: st) its wt1 l1 st1 its1 := ⟨1, fun k => by rw [run_more _ _ (by decide) (by decide), if_neg (by simp), h]; rfl⟩
end
/-- An item without its place; with what its kind tells alone. -/
def pless (x : S38) : S39 := ⟨x.f0, x.f1, x.f2, 0⟩
def clean (x : S38) : S39 := ⟨x.f0, if x.f0 = 1 then x.f1 else 0, if x.f0 = 2 ∨ x.f0 = 6 then x.f2 else ByteArray.empty, 0⟩
theorem quote_form {t q : List UInt8} (h : quote t = some q) : q = 34 :: (qall t ++ [34]) ∧ ∀ c ∈ t, c < 128 := by
  unfold quote at h
  split at h
  · rename_i ha
    exact ⟨(Option.some.inj h).symm, fun c hc => by simpa using List.all_eq_true.1 ha c hc⟩
  · cases h
def enB (obj : Bool) : UInt8 := if obj then 125 else 93
def keyB (obj : Bool) : Int := if obj then 1 else 0
def wOf (obj first : Bool) (o : List UInt8) : Int := if first then (if hd o = ((enB obj).toNat : Int) then 2 else keyB obj) else 2
/-- How what stands behind one of many begins. -/
def Next (obj : Bool) (o : List UInt8) : Prop := ∃ c r, o = c :: r ∧ bl.contains c = false ∧ dg.contains c = false ∧ (c = enB obj ∨ c = 44)
theorem Next.sep {obj : Bool} {o e : List UInt8} (h : Next obj o) : Sep (o ++ e) := by
  obtain ⟨c, r, rfl, _, hd, _⟩ := h
  intro c' r' e'
  simp only [List.cons_append, List.cons.injEq] at e'
  rw [← e'.1]; exact hd
def BackV (k : Nat) : Prop := ∀ (N d : Nat) (l : List S38) (o : List UInt8) (r : List S38) (e st : List UInt8) (its : List S38), pval k d l = some (o, r) → st.length = d → Sep e → First o ∧ ∃ its', Steps N 0 (o ++ e) st its 2 e st (its ++ its') ∧ its'.map pless ++ r.map clean = l.map clean
def BackM (k : Nat) : Prop := ∀ (N d : Nat) (obj first : Bool) (l : List S38) (o : List UInt8) (r : List S38) (e st : List UInt8) (its : List S38), pmany k d obj first l = some (o, r) → st.length = d → (∃ c r', o = c :: r' ∧ bl.contains c = false ∧ (first = false → Next obj o)) ∧ ∃ its', Steps N (wOf obj first o) (o ++ e) (enB obj :: st) its 2 e st (its ++ its') ∧ its'.map pless ++ r.map clean = l.map clean
theorem back_one {k : Nat} (hV : BackV k) {N d : Nat} {obj : Bool} {l : List S38} {o : List UInt8} {r : List S38} {e st : List UInt8} {its : List S38} (h : pone (pval k d) obj l = some (o, r)) (hst : st.length = d) (he : Sep e) :
    First o ∧ ∃ its', Steps N (keyB obj) (o ++ e) st its 2 e st (its ++ its') ∧ its'.map pless ++ r.map clean = l.map clean := by
  unfold pone at h
  cases obj with
  | false =>
    simp only [Bool.false_eq_true, if_false] at h
    exact hV N d l o r e st its h hst he
  | true =>
    simp only [if_true] at h
    cases l with
    | nil => cases h
    | cons x r0 =>
      simp only at h
      split at h
      · rename_i h6
        split at h
        · rename_i q hq
          obtain ⟨rfl, hall⟩ := quote_form hq
          cases hv : pval k d r0 with
          | none => rw [hv] at h; cases h
          | some p =>
            obtain ⟨o', r'⟩ := p
            rw [hv] at h
            simp only [pre, Option.some.injEq, Prod.mk.injEq] at h
            obtain ⟨rfl, rfl⟩ := h
            obtain ⟨_, its', h1, h2⟩ := hV N d r0 o' r' e st (its ++ [⟨6, 0, YtainnkpoibgkcaaDoor.S x.f2.data.toList, pl N (34 :: (qall x.f2.data.toList ++ 34 :: 58 :: (o' ++ e)))⟩]) hv hst he
            refine ⟨⟨34, _, rfl, by decide, by decide, by decide⟩, ⟨6, 0, YtainnkpoibgkcaaDoor.S x.f2.data.toList, pl N (34 :: (qall x.f2.data.toList ++ 34 :: 58 :: (o' ++ e)))⟩ :: its', ?_, ?_⟩
            · have hk : key N (34 :: (qall x.f2.data.toList ++ 34 :: 58 :: (o' ++ e))) st its = .go 0 (o' ++ e) st (its ++ [⟨6, 0, YtainnkpoibgkcaaDoor.S x.f2.data.toList, pl N (34 :: (qall x.f2.data.toList ++ 34 :: 58 :: (o' ++ e)))⟩]) := by
                unfold key
                rw [skip_first (by decide)]
                simp only [key_, if_true]
                rw [txt_back hall]
                simp only
                rw [skip_first (by decide)]
                simp only [colon, if_true]
              have e1 : 34 :: (qall x.f2.data.toList ++ [34]) ++ [58] ++ o' ++ e = 34 :: (qall x.f2.data.toList ++ 34 :: 58 :: (o' ++ e)) := by simp
              rw [e1]
              have := (Steps.key hk).trans h1
              rwa [List.append_assoc] at this
            · rw [List.map_cons, List.map_cons, List.cons_append, h2]
              congr 1
              simp [pless, clean, h6, S_of]
        · cases h
      · cases h
theorem back_all : ∀ (k : Nat), BackV k ∧ BackM k
  | 0 => ⟨fun N d l o r e st its h => by simp [pval] at h, fun N d obj first l o r e st its h => by simp [pmany] at h⟩
  | k + 1 => by
    obtain ⟨ihV, ihM⟩ := back_all k
    constructor
    · intro N d l o r e st its h hst he
      cases l with
      | nil => simp [pval] at h
      | cons x r0 =>
        have hmany : ∀ (obj : Bool) (b : UInt8), b = (if obj then 123 else 91) → x.f0 = (if obj then 4 else 3) → d ≠ 16 → pre [b] (pmany k d obj true r0) = some (o, r) →
            First o ∧ ∃ its', Steps N 0 (o ++ e) st its 2 e st (its ++ its') ∧ its'.map pless ++ r.map clean = (x :: r0).map clean := fun obj b hb hx hd h => by
          cases hm : pmany k d obj true r0 with
          | none => rw [hm] at h; cases h
          | some p =>
            obtain ⟨o', r'⟩ := p
            rw [hm] at h
            simp only [pre, Option.some.injEq, Prod.mk.injEq] at h
            obtain ⟨rfl, rfl⟩ := h
            obtain ⟨⟨c, rr, ho', hbl, _⟩, its', h1, h2⟩ := ihM N d obj true r0 o' r' e st (its ++ [⟨kdOf b, 0, ByteArray.empty, pl N (b :: (o' ++ e))⟩]) hm hst
            have hen : enOf b = enB obj := by subst hb; cases obj <;> rfl
            have hkd : kdOf b = x.f0 := by rw [hx]; subst hb; cases obj <;> rfl
            have hnx : nxOf b (o' ++ e) = wOf obj true o' := by
              unfold nxOf wOf
              rw [ho', List.cons_append, skip_first hbl, hen]
              simp only [if_true]
              have e1 : Js.hd (c :: (rr ++ e)) = Js.hd (c :: rr) := rfl
              rw [e1]
              split
              · rfl
              · subst hb; cases obj <;> rfl
            have hv : value N (b :: (o' ++ e)) st its = .go (wOf obj true o') (o' ++ e) (enB obj :: st) (its ++ [⟨kdOf b, 0, ByteArray.empty, pl N (b :: (o' ++ e))⟩]) := by
              have hbb : bl.contains b = false := by subst hb; cases obj <;> decide
              have hb34 : b ≠ 34 := by subst hb; cases obj <;> decide
              have hb9 : b = 91 ∨ b = 123 := by subst hb; cases obj <;> simp
              unfold value
              rw [skip_first hbb]
              simp only [value_]
              rw [if_neg hb34, if_pos hb9]
              unfold begin_
              rw [if_neg (by omega), hnx, hen]
              have : skip (o' ++ e) = o' ++ e := by rw [ho', List.cons_append]; exact skip_first hbl
              rw [this]
            refine ⟨⟨b, o', rfl, by subst hb; cases obj <;> decide, by subst hb; cases obj <;> decide, by subst hb; cases obj <;> decide⟩, ⟨kdOf b, 0, ByteArray.empty, pl N (b :: (o' ++ e))⟩ :: its', ?_, ?_⟩
            · have := (Steps.value hv).trans h1
              rw [List.append_assoc] at this
              exact this
            · rw [List.map_cons, List.map_cons, List.cons_append, h2]
              congr 1
              simp only [pless, clean, hkd]
              rw [hx]
              cases obj <;> rfl
        simp only [pval] at h
        split at h
        · rename_i h1
          split at h
          · rename_i hr
            simp only [Option.some.injEq, Prod.mk.injEq] at h
            obtain ⟨rfl, rfl⟩ := h
            obtain ⟨c, rr, hi, hb, n1, n2, n3, n4, n5⟩ := itoa_first x.f1
            have hv : value N (Lib.itoa x.f1 ++ e) st its = .go 2 e st (its ++ [⟨1, x.f1, ByteArray.empty, pl N (Lib.itoa x.f1 ++ e)⟩]) := by
              unfold value
              have hsk : skip (Lib.itoa x.f1 ++ e) = Lib.itoa x.f1 ++ e := by rw [hi, List.cons_append]; exact skip_first hb
              have hn : number N (Lib.itoa x.f1 ++ e) st its = .go 2 e st (its ++ [⟨1, x.f1, ByteArray.empty, pl N (Lib.itoa x.f1 ++ e)⟩]) := by
                unfold number
                rw [digs_itoa _ he, num_itoa hr]
                simp only [List.drop_left]
              rw [hsk]
              rw [hi, List.cons_append] at hn ⊢
              simp only [value_]
              rw [if_neg n3, if_neg (fun h => h.elim n4 n5)]
              exact hn
            refine ⟨⟨c, rr, hi, hb, n1, n2⟩, [_], Steps.value hv, ?_⟩
            rw [List.map_cons, List.map_cons, List.map_nil, List.cons_append, List.nil_append]
            congr 1
            simp [pless, clean, h1]
          · cases h
        · split at h
          · rename_i h2
            unfold pq at h
            split at h
            · rename_i q hq
              obtain ⟨rfl, hall⟩ := quote_form hq
              simp only [Option.some.injEq, Prod.mk.injEq] at h
              obtain ⟨rfl, rfl⟩ := h
              have e1 : 34 :: (qall x.f2.data.toList ++ [34]) ++ e = 34 :: (qall x.f2.data.toList ++ 34 :: e) := by simp
              have hv : value N (34 :: (qall x.f2.data.toList ++ 34 :: e)) st its = .go 2 e st (its ++ [⟨2, 0, YtainnkpoibgkcaaDoor.S x.f2.data.toList, pl N (34 :: (qall x.f2.data.toList ++ 34 :: e))⟩]) := by
                unfold value
                rw [skip_first (by decide)]
                simp only [value_, if_true]
                unfold text
                rw [txt_back hall]
              refine ⟨⟨34, _, rfl, by decide, by decide, by decide⟩, [_], by rw [e1]; exact Steps.value hv, ?_⟩
              rw [List.map_cons, List.map_cons, List.map_nil, List.cons_append, List.nil_append]
              congr 1
              simp [pless, clean, h2, S_of]
            · cases h
          · split at h
            · cases h
            · rename_i hd
              split at h
              · rename_i h3; exact hmany false 91 rfl h3 hd h
              · split at h
                · rename_i h4; exact hmany true 123 rfl h4 hd h
                · cases h
    · intro N d obj first l o r e st its h hst
      cases l with
      | nil => simp [pmany] at h
      | cons x r0 =>
        have henb : bl.contains (enB obj) = false ∧ dg.contains (enB obj) = false ∧ enB obj ≠ 44 := by cases obj <;> decide
        simp only [pmany] at h
        split at h
        · rename_i h5
          simp only [Option.some.injEq, Prod.mk.injEq] at h
          obtain ⟨rfl, rfl⟩ := h
          have hw : wOf obj first [if obj then 125 else 93] = 2 := by
            unfold wOf
            split
            · rw [if_pos (show hd [if obj then 125 else 93] = ((enB obj).toNat : Int) from rfl)]
            · rfl
          have hm : more N (enB obj :: e) (enB obj :: st) its = .go 2 e st (its ++ [⟨5, 0, ByteArray.empty, pl N (enB obj :: e)⟩]) := by
            unfold more
            simp only
            rw [skip_first henb.1]
            simp only [more_, if_true]
          refine ⟨⟨enB obj, [], rfl, henb.1, fun _ => ⟨enB obj, [], rfl, henb.1, henb.2.1, .inl rfl⟩⟩, [_], by rw [hw]; exact Steps.more hm, ?_⟩
          rw [List.map_cons, List.map_cons, List.map_nil, List.cons_append, List.nil_append]
          congr 1
          simp [pless, clean, h5]
        · cases ho : pone (pval k (d + 1)) obj (x :: r0) with
          | none => rw [ho] at h; cases h
          | some p =>
            obtain ⟨o1, r1⟩ := p
            rw [ho] at h
            simp only at h
            cases hm : pmany k d obj false r1 with
            | none => rw [hm] at h; cases h
            | some p =>
              obtain ⟨o2, r2⟩ := p
              rw [hm] at h
              simp only [pre, Option.some.injEq, Prod.mk.injEq] at h
              obtain ⟨rfl, rfl⟩ := h
              have hnx := ihM N d obj false r1 o2 r2 e st its hm hst
              obtain ⟨⟨_, _, _, _, hnx⟩, _⟩ := hnx
              have hnx := hnx rfl
              obtain ⟨⟨c, rr, ho1, hb, n1, n2⟩, its1, h1, h2⟩ := back_one (N := N) (its := its) ihV ho (st := enB obj :: st) (by simp [hst]) (hnx.sep (e := e))
              obtain ⟨_, its2, h3, h4⟩ := ihM N d obj false r1 o2 r2 e st (its ++ its1) hm hst
              have hgo : Steps N (keyB obj) (o1 ++ (o2 ++ e)) (enB obj :: st) its 2 e st (its ++ (its1 ++ its2)) := by
                have := h1.trans h3
                rwa [List.append_assoc] at this
              have hclean : (its1 ++ its2).map pless ++ r2.map clean = (x :: r0).map clean := by
                rw [List.map_append, List.append_assoc, h4, h2]
              cases first with
              | true =>
                simp only [if_true, List.nil_append]
                refine ⟨⟨c, rr ++ o2, by rw [ho1]; rfl, hb, fun h => by cases h⟩, its1 ++ its2, ?_, hclean⟩
                have hw : wOf obj true (o1 ++ o2) = keyB obj := by
                  unfold wOf
                  rw [if_pos rfl, if_neg]
                  rw [ho1]
                  show ¬ ((c.toNat : Int) = ((enB obj).toNat : Int))
                  intro hce
                  have : c = enB obj := UInt8.toNat_inj.1 (by omega)
                  cases obj with
                  | true => exact n2 this
                  | false => exact n1 this
                rw [hw, List.append_assoc]
                exact hgo
              | false =>
                simp only [Bool.false_eq_true, if_false]
                refine ⟨⟨44, o1 ++ o2, rfl, by decide, fun _ => ⟨44, o1 ++ o2, rfl, by decide, by decide, .inr rfl⟩⟩, its1 ++ its2, ?_, hclean⟩
                have hm : more N (44 :: (o1 ++ (o2 ++ e))) (enB obj :: st) its = .go (keyB obj) (o1 ++ (o2 ++ e)) (enB obj :: st) its := by
                  unfold more
                  simp only
                  rw [skip_first (by decide)]
                  simp only [more_]
                  rw [if_neg (Ne.symm henb.2.2), if_pos trivial]
                  congr 1
                  cases obj <;> rfl
                have hw : wOf obj false ([44] ++ o1 ++ o2) = 2 := rfl
                rw [hw, show [44] ++ o1 ++ o2 ++ e = 44 :: (o1 ++ (o2 ++ e)) by simp]
                exact (Steps.more hm).trans hgo
/-- What is printed is parsed back. -/
theorem parse_print {l : List S38} {o : List UInt8} (h : print l = some o) : ∃ its, parse o = .ok [] its ∧ its.map pless = l.map clean := by
  unfold print at h
  cases hv : pval (2 * l.length + 1) 0 l with
  | none => rw [hv] at h; cases h
  | some p =>
    obtain ⟨o', r⟩ := p
    rw [hv] at h
    cases r with
    | cons x r => cases h
    | nil =>
      simp only [whole, Option.some.injEq] at h
      subst h
      obtain ⟨_, its, ⟨j, hj⟩, h2⟩ := (back_all _).1 o'.length 0 l o' [] [] [] [] hv rfl (fun c r h => by cases h)
      rw [List.append_nil, List.nil_append] at hj
      rw [List.map_nil, List.append_nil] at h2
      refine ⟨its, ?_, h2⟩
      have h1 := hj 1
      have hend : run o'.length 1 2 [] [] its = some (.ok [] its) := by rw [run_more _ _ (by decide) (by decide), if_pos rfl]
      rw [hend] at h1
      obtain ⟨F, hF⟩ := run_some o'.length (o'.length + 1) 0 o' [] [] (Nat.lt_succ_self _)
      have ha := run_more_fuel (k' := (1 + j) + (o'.length + 1)) (by omega) h1
      have hb := run_more_fuel (k' := (1 + j) + (o'.length + 1)) (by omega) hF
      rw [ha] at hb
      obtain rfl := Option.some.inj hb
      unfold parse
      rw [hF]
      simp [fin, skip]
end Js
end Go.Proofs.YtainnkpoibgkcaaDoor
namespace Go.Proofs.YtainnkpoibgkcaaDoor
set_option linter.unusedVariables false
set_option linter.unusedSimpArgs false
open Go.RowKit Go.Proofs.YtainnkpoibgkcaaDoor.PAll Go.Proofs.YtainnkpoibgkcaaDoorW.PrintWords Go.Proofs.YtainnkpoibgkcaaDoorW.PrintLast
namespace Js
/-- More rounds than that change nothing. -/
theorem enough : ∀ (K : Nat), (∀ d l o r, pval K d l = some (o, r) → ∀ k', 2 * (l.length - r.length) ≤ k' → pval k' d l = some (o, r)) ∧ (∀ d obj first l o r, pmany K d obj first l = some (o, r) → ∀ k', 2 * (l.length - r.length) + 1 ≤ k' → pmany k' d obj first l = some (o, r))
  | 0 => ⟨fun d l o r h => by simp [pval] at h, fun d obj first l o r h => by simp [pmany] at h⟩
  | K + 1 => by
    obtain ⟨ihV, ihM⟩ := enough K
    have hfit := fits_all K
    have hfit1 := fits_all (K + 1)
    constructor
    · intro d l o r h k' hk
      have hlt := (hfit1.1 d l o r h).2.2
      cases l with
      | nil => simp [pval] at h
      | cons x r0 =>
        obtain ⟨m, rfl⟩ : ∃ m, k' = m + 1 := ⟨k' - 1, by omega⟩
        have hmany : ∀ b obj, pre b (pmany K d obj true r0) = some (o, r) → pre b (pmany m d obj true r0) = some (o, r) := fun b obj h => by
          cases hm : pmany K d obj true r0 with
          | none => rw [hm] at h; cases h
          | some p =>
            obtain ⟨o', r'⟩ := p
            rw [hm] at h
            have hr : r' = r := by simp only [pre, Option.some.injEq, Prod.mk.injEq] at h; exact h.2
            subst hr
            have := hfit.2 d obj true r0 o' r' hm
            rw [ihM d obj true r0 o' r' hm m (by simp only [List.length_cons] at hk; omega)]
            exact h
        simp only [pval] at h ⊢
        split at h
        · rename_i h1; rw [if_pos h1]; exact h
        · rename_i h1; rw [if_neg h1]
          split at h
          · rename_i h2; rw [if_pos h2]; exact h
          · rename_i h2; rw [if_neg h2]
            split at h
            · cases h
            · rename_i h16; rw [if_neg h16]
              split at h
              · rename_i h3; rw [if_pos h3]; exact hmany _ _ h
              · rename_i h3; rw [if_neg h3]
                split at h
                · rename_i h4; rw [if_pos h4]; exact hmany _ _ h
                · cases h
    · intro d obj first l o r h k' hk
      have hlt := (hfit1.2 d obj first l o r h).2.2
      cases l with
      | nil => simp [pmany] at h
      | cons x r0 =>
        obtain ⟨m, rfl⟩ : ∃ m, k' = m + 1 := ⟨k' - 1, by omega⟩
        simp only [pmany] at h ⊢
        split at h
        · rename_i h5; rw [if_pos h5]; exact h
        · rename_i h5; rw [if_neg h5]
          cases ho : pone (pval K (d + 1)) obj (x :: r0) with
          | none => rw [ho] at h; cases h
          | some p =>
            obtain ⟨o1, r1⟩ := p
            rw [ho] at h
            simp only at h
            cases hm : pmany K d obj false r1 with
            | none => rw [hm] at h; cases h
            | some p =>
              obtain ⟨o2, r2⟩ := p
              rw [hm] at h
              have hr : r2 = r := by simp only [pre, Option.some.injEq, Prod.mk.injEq] at h; exact h.2
              subst hr
              have hf2 := hfit.2 d obj false r1 o2 r2 hm
              have hf1 := pone_fits (hfit.1 (d + 1)) obj (x :: r0) o1 r1 ho
              have ho' : pone (pval m (d + 1)) obj (x :: r0) = some (o1, r1) := by
                unfold pone at ho ⊢
                cases obj with
                | false =>
                  simp only [Bool.false_eq_true, if_false] at ho ⊢
                  exact ihV _ _ _ _ ho m (by omega)
                | true =>
                  simp only [if_true] at ho ⊢
                  split at ho
                  · rename_i h6
                    rw [if_pos h6]
                    split at ho
                    · rename_i q hq
                      cases hv : pval K (d + 1) r0 with
                      | none => rw [hv] at ho; cases ho
                      | some p =>
                        obtain ⟨o3, r3⟩ := p
                        rw [hv] at ho
                        have hr3 : r3 = r1 := by simp only [pre, Option.some.injEq, Prod.mk.injEq] at ho; exact ho.2
                        subst hr3
                        have := hfit.1 (d + 1) r0 o3 r3 hv
                        rw [ihV _ _ _ _ hv m (by simp only [List.length_cons] at hk; omega)]
                        exact ho
                    · cases ho
                  · cases ho
              rw [ho']
              simp only
              rw [ihM d obj false r1 o2 r2 hm m (by simp only [List.length_cons] at hk hf1; omega)]
              exact h
/-- What is open is closed by these items. -/
def tailOK : List UInt8 → List S38 → Prop
  | [], r => r = []
  | en :: st, r => ∃ K o r', pmany K st.length (en == 125) false r = some (o, r') ∧ tailOK st r'
def Want (wt : Int) (st : List UInt8) (m : List S38) : Prop :=
  if wt = 0 then ∃ K o r', pval K st.length m = some (o, r') ∧ tailOK st r'
  else if wt = 1 then ∃ K o r', pone (pval K st.length) true m = some (o, r') ∧ tailOK st r'
  else tailOK st m
theorem want2 (st : List UInt8) (m : List S38) : Want 2 st m = tailOK st m := by unfold Want; rw [if_neg (by decide), if_neg (by decide)]
/-- An item of a parsed text. -/
def Good (N : Nat) (x : S38) : Prop := pless x = clean x ∧ -100000000 ≤ x.f1 ∧ x.f1 ≤ 100000000 ∧ x.f2.size ≤ N
theorem sign_low {l : List UInt8} {m : UInt8} {n : Nat} (h : sign l = some (m, n)) : m < 128 := by
  cases l with
  | nil => cases h
  | cons c r =>
    cases he : esc c with
    | some x =>
      simp only [sign, he, Option.some.injEq, Prod.mk.injEq] at h
      rw [← h.1]
      unfold esc at he
      (iterate 6 (split at he; · obtain rfl := Option.some.inj he; decide))
      cases he
    | none =>
      simp only [sign, he] at h
      split at h
      · rename_i hc
        simp only [Option.some.injEq, Prod.mk.injEq] at h
        rw [← h.1, UInt8.lt_iff_toNat_lt, UInt8.toNat_ofNat']
        have := hc.2.2.2
        have e : (128 : UInt8).toNat = 128 := rfl
        rw [e]; omega
      · cases h
theorem txt_low : ∀ (n : Nat) (l acc : List UInt8) {t rest : List UInt8}, l.length ≤ n → (∀ c ∈ acc, c < 128) → txt l acc = .ok t rest → (∀ c ∈ t, c < 128) ∧ t.length ≤ acc.length + l.length
  | n, [], acc, t, rest, _, _, h => by rw [txt] at h; cases h
  | 0, c :: r, acc, t, rest, hn, _, h => by simp at hn
  | n + 1, c :: r, acc, t, rest, hn, ha, h => by
    rw [txt] at h
    by_cases h1 : c = 34
    · rw [if_pos h1] at h
      cases h
      exact ⟨ha, by omega⟩
    · rw [if_neg h1] at h
      by_cases h2 : c = 92
      · rw [if_pos h2] at h
        split at h
        · cases h
        · rename_i m k hs
          have hp := sign_pos hs
          have h3 := txt_low n (r.drop k) (acc ++ [m]) (by rw [List.length_drop]; simp at hn; omega) (fun x hx => by
            rcases List.mem_append.1 hx with hx | hx
            · exact ha x hx
            · rw [List.mem_singleton.1 hx]; exact sign_low hs) h
          refine ⟨h3.1, ?_⟩
          have := h3.2
          simp only [List.length_append, List.length_drop, List.length_cons, List.length_nil] at this ⊢
          omega
      · rw [if_neg h2] at h
        split at h
        · cases h
        · rename_i h4
          have h3 := txt_low n r (acc ++ [c]) (by simp at hn; omega) (fun x hx => by
            rcases List.mem_append.1 hx with hx | hx
            · exact ha x hx
            · rw [List.mem_singleton.1 hx]
              have : ¬ 126 < c := fun h => h4 (.inr h)
              rw [UInt8.lt_iff_toNat_lt] at this ⊢
              have e1 : (126 : UInt8).toNat = 126 := rfl
              have e2 : (128 : UInt8).toNat = 128 := rfl
              omega) h
          refine ⟨h3.1, ?_⟩
          have := h3.2
          simp only [List.length_append, List.length_cons, List.length_nil] at this ⊢
          omega
theorem quote_low {t : List UInt8} (h : ∀ c ∈ t, c < 128) : quote t = some (34 :: (qall t ++ [34])) := by
  unfold quote; rw [if_pos (List.all_eq_true.2 fun c hc => by simpa using h c hc)]
theorem pmany_first {K d : Nat} {obj : Bool} {l : List S38} {o : List UInt8} {r : List S38} (h : pmany K d obj false l = some (o, r)) : ∃ o', pmany K d obj true l = some (o', r) := by
  cases K with
  | zero => simp [pmany] at h
  | succ K =>
    cases l with
    | nil => simp [pmany] at h
    | cons x r0 =>
      simp only [pmany] at h ⊢
      split at h
      · rename_i h5
        rw [if_pos h5]
        simp only [Option.some.injEq, Prod.mk.injEq] at h
        exact ⟨_, by rw [h.2]⟩
      · rename_i h5
        rw [if_neg h5]
        cases ho : pone (pval K (d + 1)) obj (x :: r0) with
        | none => rw [ho] at h; cases h
        | some p =>
          obtain ⟨o1, r1⟩ := p
          rw [ho] at h
          simp only at h ⊢
          cases hm : pmany K d obj false r1 with
          | none => rw [hm] at h; cases h
          | some p =>
            obtain ⟨o2, r2⟩ := p
            rw [hm] at h
            simp only [pre, Option.some.injEq, Prod.mk.injEq] at h
            simp only [pre]
            exact ⟨_, by rw [h.2]⟩
/-- One of many, and what stands behind it. -/
theorem one_tail {K : Nat} {en : UInt8} {st : List UInt8} {m : List S38} {first : Bool} {o : List UInt8} {r' : List S38} (h : pone (pval K (st.length + 1)) (en == 125) m = some (o, r')) (ht : tailOK (en :: st) r') :
    ∃ K o r, pmany K st.length (en == 125) first m = some (o, r) ∧ tailOK st r := by
  obtain ⟨K2, o2, r2, h2, h3⟩ := ht
  have hf := pone_fits ((fits_all K).1 (st.length + 1)) (en == 125) m o r' h
  have hf2 := (fits_all K2).2 _ _ _ _ _ _ h2
  cases m with
  | nil => simp at hf
  | cons x r0 =>
    have h5 : x.f0 ≠ 5 := by
      intro h5
      unfold pone at h
      split at h
      · simp only at h; rw [if_neg (by omega)] at h; cases h
      · cases K with
        | zero => simp [pval] at h
        | succ K =>
          simp only [pval] at h
          rw [if_neg (show ¬ x.f0 = 1 by omega), if_neg (show ¬ x.f0 = 2 by omega)] at h
          split at h
          · cases h
          · rw [if_neg (show ¬ x.f0 = 3 by omega), if_neg (show ¬ x.f0 = 4 by omega)] at h; cases h
    obtain ⟨k', hk'⟩ : ∃ k', k' = 2 * (x :: r0).length + 2 := ⟨_, rfl⟩
    refine ⟨k' + 1, (if first then [] else [44]) ++ o ++ o2, r2, ?_, h3⟩
    simp only [pmany]
    rw [if_neg h5]
    have ho' : pone (pval k' (st.length + 1)) (en == 125) (x :: r0) = some (o, r') := by
      unfold pone at h ⊢
      split at h
      · rename_i hob
        rw [if_pos hob]
        simp only at h ⊢
        split at h
        · rename_i h6
          rw [if_pos h6]
          split at h
          · rename_i q hq
            cases hv : pval K (st.length + 1) r0 with
            | none => rw [hv] at h; cases h
            | some p =>
              obtain ⟨o3, r3⟩ := p
              rw [hv] at h
              rw [(enough K).1 _ _ _ _ hv k' (by simp only [List.length_cons] at hk'; omega)]
              exact h
          · cases h
        · cases h
      · rename_i hob
        rw [if_neg hob]
        exact (enough K).1 _ _ _ _ h k' (by omega)
    rw [ho']
    simp only
    rw [(enough K2).2 _ _ _ _ _ _ h2 k' (by omega)]
    rfl
theorem parsed_all (N : Nat) : ∀ (k : Nat) (wt : Int) (l st : List UInt8) (its : List S38) (l' : List UInt8) (its' : List S38), (∀ en ∈ st, en = 93 ∨ en = 125) → st.length ≤ 16 → l.length ≤ N → (wt = 0 ∨ (wt = 1 ∧ ∃ s, st = 125 :: s) ∨ wt = 2) →
    run N k wt l st its = some (.ok l' its') → ∃ m, its' = its ++ m ∧ Want wt st m ∧ ∀ x ∈ m, Good N x
  | 0, wt, l, st, its, l', its', _, _, _, _, h => by simp [run] at h
  | k + 1, wt, l, st, its, l', its', hen, hst, hl, hw, h => by
    have hnum : ∀ l1, l1.length ≤ N → next N k (number N l1 st its) = some (.ok l' its') → ∃ m, its' = its ++ m ∧ Want 0 st m ∧ ∀ x ∈ m, Good N x := fun l1 hl1 h => by
      cases hn : number N l1 st its with
      | bad a c => rw [hn] at h; simp [next] at h
      | go wt2 l2 st2 its2 =>
        have hsh := number_short hn
        rw [hn] at h
        unfold number at hn
        split at hn
        · rename_i v hv
          simp only [R.go.injEq] at hn
          obtain ⟨rfl, rfl, rfl, rfl⟩ := hn
          simp only [next] at h
          obtain ⟨m, h1, h2, h3⟩ := parsed_all N k 2 _ st _ l' its' hen hst (by omega) (.inr (.inr rfl)) h
          have hb : -100000000 ≤ v ∧ v ≤ 100000000 := by
            unfold num at hv
            split at hv
            · split at hv
              · rename_i hc; obtain rfl := Option.some.inj hv; exact hc.2
              · cases hv
            · cases hv
          refine ⟨⟨1, v, ByteArray.empty, pl N l1⟩ :: m, by rw [h1]; simp, ⟨1, Lib.itoa v, m, ?_, h2⟩, fun x hx => ?_⟩
          · simp only [pval]; rw [if_pos trivial, if_pos hb]
          · rcases List.mem_cons.1 hx with rfl | hx
            · exact ⟨by simp [pless, clean], hb.1, hb.2, Nat.zero_le _⟩
            · exact h3 x hx
        · cases hn
    rcases hw with rfl | ⟨rfl, s, rfl⟩ | rfl
    · rw [run_value] at h
      have hsl := skip_le l
      unfold value at h
      cases hs : skip l with
      | nil => rw [hs] at h; exact hnum [] (by simp) h
      | cons c r =>
        rw [hs] at h hsl
        simp only [value_] at h
        split at h
        · rename_i h34
          cases ht : txt r [] with
          | bad rest => unfold text at h; rw [ht] at h; simp [next] at h
          | ok t rest =>
            unfold text at h
            rw [ht] at h
            simp only [next] at h
            have h0 := (txt_rest _ _ _ (Nat.le_refl _) ht).2
            obtain ⟨hlow, hlen⟩ := txt_low _ r [] (Nat.le_refl _) (fun c hc => by cases hc) ht
            simp only [List.length_cons] at hsl
            simp only [List.length_nil] at hlen
            obtain ⟨m, h1, h2, h3⟩ := parsed_all N k 2 _ st _ l' its' hen hst (by omega) (.inr (.inr rfl)) h
            refine ⟨⟨2, 0, YtainnkpoibgkcaaDoor.S t, pl N (c :: r)⟩ :: m, by rw [h1]; simp, ⟨1, 34 :: (qall t ++ [34]), m, ?_, h2⟩, fun x hx => ?_⟩
            · simp only [pval]
              rw [if_neg (by decide), if_pos trivial]
              unfold pq
              simp only [S_data]
              rw [quote_low hlow]
            · rcases List.mem_cons.1 hx with rfl | hx
              · exact ⟨by simp [pless, clean], (by decide : (-100000000 : Int) ≤ 0), (by decide : (0 : Int) ≤ 100000000), by rw [S_size]; omega⟩
              · exact h3 x hx
        · split at h
          · rename_i hb
            unfold begin_ at h
            split at h
            · simp [next] at h
            · rename_i h16
              simp only [next] at h
              have hsk := skip_le r
              simp only [List.length_cons] at hsl
              have heo : enOf c = 93 ∨ enOf c = 125 := by rcases hb with rfl | rfl; exact .inl rfl; exact .inr rfl
              have hnx : nxOf c r = 0 ∨ (nxOf c r = 1 ∧ ∃ s, enOf c :: st = 125 :: s) ∨ nxOf c r = 2 := by
                unfold nxOf
                split
                · exact .inr (.inr rfl)
                · rcases hb with rfl | rfl
                  · exact .inl rfl
                  · exact .inr (.inl ⟨rfl, st, rfl⟩)
              obtain ⟨m, h1, h2, h3⟩ := parsed_all N k _ _ (enOf c :: st) _ l' its' (fun en he => by
                rcases List.mem_cons.1 he with rfl | he
                · exact heo
                · exact hen en he) (by simp; omega) (by omega) hnx h
              have hobj : (enOf c == 125) = (c == 123) := by rcases hb with rfl | rfl <;> rfl
              have hval : ∃ K o r', pmany K st.length (enOf c == 125) true m = some (o, r') ∧ tailOK st r' := by
                unfold nxOf at h2
                split at h2
                · simp only [Want] at h2
                  rw [if_neg (by decide), if_neg (by decide)] at h2
                  obtain ⟨K, o, r', h4, h5⟩ := h2
                  obtain ⟨o', h6⟩ := pmany_first h4
                  exact ⟨K, o', r', h6, h5⟩
                · rcases hb with rfl | rfl
                  · simp only [Want, show ¬ ((91 : UInt8) = 123) from by decide, if_false, if_true] at h2
                    obtain ⟨K, o, r', h4, h5⟩ := h2
                    exact one_tail (K := K) (o := o) (by unfold pone; rw [if_neg (by decide)]; exact h4) h5
                  · simp only [Want, if_true] at h2
                    rw [if_neg (by decide)] at h2
                    obtain ⟨K, o, r', h4, h5⟩ := h2
                    exact one_tail (K := K) (o := o) h4 h5
              obtain ⟨K, o, r', h4, h5⟩ := hval
              refine ⟨⟨kdOf c, 0, ByteArray.empty, pl N (c :: r)⟩ :: m, by rw [h1]; simp, ?_, fun x hx => ?_⟩
              · rw [hobj] at h4
                rcases hb with rfl | rfl
                · refine ⟨K + 1, 91 :: o, r', ?_, h5⟩
                  simp only [pval, show kdOf 91 = 3 from rfl]
                  rw [if_neg (by decide), if_neg (by decide), if_neg h16, if_pos trivial]
                  rw [show ((91 : UInt8) == 123) = false from rfl] at h4
                  rw [h4]; rfl
                · refine ⟨K + 1, 123 :: o, r', ?_, h5⟩
                  simp only [pval, show kdOf 123 = 4 from rfl]
                  rw [if_neg (by decide), if_neg (by decide), if_neg h16, if_neg (by decide), if_pos trivial]
                  rw [show ((123 : UInt8) == 123) = true from rfl] at h4
                  rw [h4]; rfl
              · rcases List.mem_cons.1 hx with rfl | hx
                · refine ⟨?_, (by decide : (-100000000 : Int) ≤ 0), (by decide : (0 : Int) ≤ 100000000), Nat.zero_le _⟩
                  rcases hb with rfl | rfl <;> simp [pless, clean, kdOf]
                · exact h3 x hx
          · exact hnum (c :: r) (by omega) h
    · rw [run_key] at h
      have hsl := skip_le l
      unfold key at h
      cases hs : skip l with
      | nil => rw [hs] at h; simp [key_, next] at h
      | cons c r =>
        rw [hs] at h hsl
        simp only [key_] at h
        split at h
        · cases ht : txt r [] with
          | bad rest => rw [ht] at h; simp [next] at h
          | ok t rest =>
            rw [ht] at h
            simp only at h
            have h0 := (txt_rest _ _ _ (Nat.le_refl _) ht).2
            have hs2l := skip_le rest
            obtain ⟨hlow, hlen⟩ := txt_low _ r [] (Nat.le_refl _) (fun c hc => by cases hc) ht
            simp only [List.length_cons] at hsl
            simp only [List.length_nil] at hlen
            cases hs2 : skip rest with
            | nil => rw [hs2] at h; simp [colon, next] at h
            | cons c2 r2 =>
              rw [hs2] at h hs2l
              simp only [List.length_cons] at hs2l
              simp only [colon] at h
              split at h
              · simp only [next] at h
                obtain ⟨m, h1, h2, h3⟩ := parsed_all N k 0 r2 (125 :: s) _ l' its' hen hst (by omega) (.inl rfl) h
                simp only [Want, if_true] at h2
                obtain ⟨K, o, r', h4, h5⟩ := h2
                refine ⟨⟨6, 0, YtainnkpoibgkcaaDoor.S t, pl N (c :: r)⟩ :: m, by rw [h1]; simp, ?_, fun x hx => ?_⟩
                · simp only [Want]
                  rw [if_neg (by decide), if_pos trivial]
                  refine ⟨K, 34 :: (qall t ++ [34]) ++ [58] ++ o, r', ?_, h5⟩
                  unfold pone
                  simp only [if_true, S_data]
                  rw [quote_low hlow]
                  simp only
                  rw [h4]; rfl
                · rcases List.mem_cons.1 hx with rfl | hx
                  · exact ⟨by simp [pless, clean], (by decide : (-100000000 : Int) ≤ 0), (by decide : (0 : Int) ≤ 100000000), by rw [S_size]; omega⟩
                  · exact h3 x hx
              · simp [next] at h
        · simp [next] at h
    · rw [run_more _ _ (by decide) (by decide)] at h
      simp only [want2]
      split at h
      · rename_i hnil
        simp only [Option.some.injEq, Fin.ok.injEq] at h
        refine ⟨[], by rw [h.2]; simp, by rw [hnil]; rfl, fun x hx => by cases hx⟩
      · rename_i hnil
        cases st with
        | nil => exact absurd rfl hnil
        | cons en st =>
          have hsl := skip_le l
          unfold more at h
          simp only at h
          have hen0 := hen en List.mem_cons_self
          cases hs : skip l with
          | nil => rw [hs] at h; simp [more_, next] at h
          | cons c r =>
            rw [hs] at h hsl
            simp only [List.length_cons] at hsl hst
            simp only [more_] at h
            split at h
            · simp only [next] at h
              obtain ⟨m, h1, h2, h3⟩ := parsed_all N k 2 r st _ l' its' (fun e he => hen e (List.mem_cons_of_mem _ he)) (by omega) (by omega) (.inr (.inr rfl)) h
              simp only [Want] at h2
              rw [if_neg (by decide), if_neg (by decide)] at h2
              refine ⟨⟨5, 0, ByteArray.empty, pl N (c :: r)⟩ :: m, by rw [h1]; simp, ⟨1, [if (en == 125) = true then 125 else 93], m, ?_, h2⟩, fun x hx => ?_⟩
              · simp only [pmany]
                rw [if_pos trivial]
              · rcases List.mem_cons.1 hx with rfl | hx
                · exact ⟨by simp [pless, clean], (by decide : (-100000000 : Int) ≤ 0), (by decide : (0 : Int) ≤ 100000000), Nat.zero_le _⟩
                · exact h3 x hx
            · split at h
              · simp only [next] at h
                have hstl : (en :: st).length ≤ 16 := by simp; omega
                obtain ⟨m, h1, h2, h3⟩ := parsed_all N k _ r (en :: st) _ l' its' hen hstl (by omega) (by
                  rcases hen0 with rfl | rfl
                  · exact .inl rfl
                  · exact .inr (.inl ⟨rfl, st, rfl⟩)) h
                refine ⟨m, h1, ?_, h3⟩
                rcases hen0 with rfl | rfl
                · simp only [Want, show ¬ ((93 : UInt8) = 125) from by decide, if_false, if_true] at h2
                  obtain ⟨K, o, r', h4, h5⟩ := h2
                  exact one_tail (K := K) (o := o) (by unfold pone; rw [if_neg (by decide)]; exact h4) h5
                · simp only [Want, if_true] at h2
                  rw [if_neg (by decide)] at h2
                  obtain ⟨K, o, r', h4, h5⟩ := h2
                  exact one_tail (K := K) (o := o) h4 h5
              · simp [next] at h
/-- What is parsed may be printed. -/
theorem print_parsed {s l : List UInt8} {its : List S38} (h : parse s = .ok l its) : (∃ o, print its = some o) ∧ ∀ x ∈ its, Good s.length x := by
  unfold parse at h
  obtain ⟨F, hF⟩ := run_some s.length (s.length + 1) 0 s [] [] (Nat.lt_succ_self _)
  rw [hF] at h
  cases F with
  | bad a c => cases h
  | ok l2 its2 =>
    simp only [fin] at h
    split at h
    · simp only [Fin.ok.injEq] at h
      obtain ⟨_, rfl⟩ := h
      obtain ⟨m, h1, h2, h3⟩ := parsed_all s.length _ 0 s [] [] l2 its2 (fun e he => by cases he) (by simp) (Nat.le_refl _) (.inl rfl) hF
      simp only [List.nil_append] at h1
      subst h1
      simp only [Want, if_true] at h2
      obtain ⟨K, o, r', h4, h5⟩ := h2
      simp only [tailOK] at h5
      subst h5
      refine ⟨⟨o, ?_⟩, h3⟩
      unfold print
      rw [(enough K).1 0 _ _ _ h4 _ (by simp only [List.length_nil]; omega)]
      rfl
    · cases h

/-- At most one item more, and its place lies in the text. -/
def Grow (N : Nat) (its its2 : List S38) : Prop := its2 = its ∨ ∃ x, its2 = its ++ [x] ∧ 0 ≤ x.f3 ∧ x.f3 ≤ (N : Int)
theorem pl_in (N : Nat) (l : List UInt8) : 0 ≤ pl N l ∧ pl N l ≤ (N : Int) := by unfold pl; omega
section
variable {N : Nat} {l st : List UInt8} {its : List S38} {wt : Int} {l2 st2 : List UInt8} {its2 : List S38}
theorem number_grow (h : number N l st its = .go wt l2 st2 its2) : Grow N its its2 := by
  unfold number at h; split at h
  · simp only [R.go.injEq] at h; exact .inr ⟨_, h.2.2.2.symm, pl_in N l⟩
  · cases h
theorem text_grow {kd : Int} {r : List UInt8} (h : text N kd l r st its = .go wt l2 st2 its2) : Grow N its its2 := by
  unfold text at h; split at h
  · simp only [R.go.injEq] at h; exact .inr ⟨_, h.2.2.2.symm, pl_in N l⟩
  · cases h
theorem value_grow (h : value N l st its = .go wt l2 st2 its2) : Grow N its its2 := by
  unfold value at h
  cases hs : skip l with
  | nil => rw [hs] at h; exact number_grow (l := []) (st := st) h
  | cons c r =>
    rw [hs] at h
    simp only [value_] at h
    split at h
    · exact text_grow h
    · split at h
      · unfold begin_ at h; split at h
        · cases h
        · simp only [R.go.injEq] at h; exact .inr ⟨_, h.2.2.2.symm, pl_in N _⟩
      · exact number_grow h
theorem key_grow (h : key N l st its = .go wt l2 st2 its2) : Grow N its its2 := by
  unfold key at h
  cases hs : skip l with
  | nil => rw [hs] at h; cases h
  | cons c r =>
    rw [hs] at h
    simp only [key_] at h
    split at h
    · split at h
      · rename_i t rest ht
        cases hs2 : skip rest with
        | nil => rw [hs2] at h; cases h
        | cons c2 r2 =>
          rw [hs2] at h
          simp only [colon] at h
          split at h
          · simp only [R.go.injEq] at h; exact .inr ⟨_, h.2.2.2.symm, pl_in N _⟩
          · cases h
      · cases h
    · cases h
theorem more_grow (h : more N l st its = .go wt l2 st2 its2) : Grow N its its2 := by
  unfold more at h
  cases st with
  | nil => cases h
  | cons en st =>
    simp only at h
    cases hs : skip l with
    | nil => rw [hs] at h; cases h
    | cons c r =>
      rw [hs] at h
      simp only [more_] at h
      split at h
      · simp only [R.go.injEq] at h; exact .inr ⟨_, h.2.2.2.symm, pl_in N _⟩
      · split at h
        · simp only [R.go.injEq] at h; exact .inl h.2.2.2.symm
        · cases h
end
def Within (N : Nat) (its : List S38) : Prop := ∀ x ∈ its, 0 ≤ x.f3 ∧ x.f3 ≤ (N : Int)
theorem Grow.within {N : Nat} {its its2 : List S38} (h : Grow N its its2) (hw : Within N its) : Within N its2 ∧ its2.length ≤ its.length + 1 := by
  rcases h with rfl | ⟨x, rfl, hx⟩
  · exact ⟨hw, Nat.le_succ _⟩
  · refine ⟨fun y hy => ?_, by simp⟩
    rcases List.mem_append.1 hy with hy | hy
    · exact hw y hy
    · rw [List.mem_singleton.1 hy]; exact hx
theorem run_within (N : Nat) : ∀ (k : Nat) (wt : Int) (l st : List UInt8) (its : List S38) (l' : List UInt8) (its' : List S38), Within N its → run N k wt l st its = some (.ok l' its') → Within N its' ∧ its'.length ≤ its.length + l.length
  | 0, wt, l, st, its, l', its', hw, h => by simp [run] at h
  | k + 1, wt, l, st, its, l', its', hw, h => by
    have hn : ∀ r, (∀ wt2 l2 st2 its2, r = .go wt2 l2 st2 its2 → Grow N its its2 ∧ l2.length < l.length) → next N k r = some (.ok l' its') → Within N its' ∧ its'.length ≤ its.length + l.length := fun r hr h => by
      cases r with
      | bad a c => simp [next] at h
      | go wt2 l2 st2 its2 =>
        obtain ⟨hg, hl⟩ := hr _ _ _ _ rfl
        obtain ⟨h1, h2⟩ := hg.within hw
        simp only [next] at h
        obtain ⟨h3, h4⟩ := run_within N k wt2 l2 st2 its2 l' its' h1 h
        exact ⟨h3, by omega⟩
    by_cases h0 : wt = 0
    · subst h0; rw [run_value] at h
      exact hn _ (fun _ _ _ _ hv => ⟨value_grow hv, value_short hv⟩) h
    · by_cases h1 : wt = 1
      · subst h1; rw [run_key] at h
        exact hn _ (fun _ _ _ _ hv => ⟨key_grow hv, key_short hv⟩) h
      · rw [run_more _ _ h0 h1] at h
        split at h
        · simp only [Option.some.injEq, Fin.ok.injEq] at h
          obtain ⟨rfl, rfl⟩ := h
          exact ⟨hw, by omega⟩
        · exact hn _ (fun _ _ _ _ hv => ⟨more_grow hv, more_short hv⟩) h
theorem parse_within {s l : List UInt8} {its : List S38} (h : parse s = .ok l its) : Within s.length its ∧ its.length ≤ s.length := by
  unfold parse at h
  obtain ⟨F, hF⟩ := run_some s.length (s.length + 1) 0 s [] [] (Nat.lt_succ_self _)
  rw [hF] at h
  cases F with
  | bad a c => cases h
  | ok l2 its2 =>
    simp only [fin] at h
    split at h
    · simp only [Fin.ok.injEq] at h
      obtain ⟨_, rfl⟩ := h
      have := run_within s.length _ 0 s [] [] l2 its2 (fun x hx => by simp at hx) hF
      simpa using this
    · cases h
end Js
end Go.Proofs.YtainnkpoibgkcaaDoor
