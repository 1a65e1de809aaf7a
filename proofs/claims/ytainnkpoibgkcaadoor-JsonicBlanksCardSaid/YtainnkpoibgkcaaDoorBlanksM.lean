/- JsonicBlanks in plain Lean: blanks ahead of a value and behind it turn nothing but the places; from the rows' listed variables to what the walks ask; a world in which they lie. Conditions: none. -/
import Derived.Test.YtainnkpoibgkcaaDoorPAllx6
import Derived.Test.YtainnkpoibgkcaaDoorRows
import Derived.Stop.LaidErr
import Derived.MakeChecks
import Derived.LaidLaws
import Derived.Lib.LaidTab
namespace Go.Proofs.YtainnkpoibgkcaaDoor
set_option linter.unusedVariables false
open Go.RowKit

theorem star : "*" ++ "errors.errorString" = "*errors.errorString" := by decide
theorem row132 (u : TypeId) (h : Tryd.prog.typeName? 3 u = some "*errors.errorString") : u = 132 :=
  typeName_ptr_named (nm := "errors.errorString") (by rw [star]; kernel_rfl) (by kernel_rfl) (by decide) u (by rw [star]; exact h)
theorem err_of {n : String} {g : Nat} {text : List UInt8} {r : List (String × DataW Unit)} {W : World} (h : laidMet Tryd.prog ((n, .iface "*errors.errorString" (.ptr (.agg [.lit (.string text)]))) :: r) W)
    (hg : Tryd.prog.globalNamed n = some g) (ht : (Tryd.prog.globals[g]?).map (·.type) = some 58) : errAt W g := by
  obtain ⟨a, s, hv, _⟩ := laid_sentinel h hg ht Tryd.underlying58 row132 Tryd.underlying132 Tryd.underlying134 rfl rfl Tryd.underlying9 (by kernel_rfl) (by kernel_rfl)
  have := World.var?_cell hg hv 0
  exact ⟨_, by simpa using this, .inr ⟨_, _, rfl⟩⟩
theorem tab_of_laid {W : World} (h : laidMetH Tryd.prog Rows.jsonicDeepRow.laid W) : Tab W := by
  have h1 : laidMet Tryd.prog Rows.jsonicDeepRow.laid W := by
    rw [← MakeChecks.laidMetH_plain _ _ _ (by kernel_rfl)]; exact h
  have h2 := h1.tail.tail
  have h3 := h2.tail.tail
  have h4 := h3.tail
  refine ⟨?_, err_of (g := 2) h4 (by kernel_rfl) (by kernel_rfl), err_of (g := 3) h3 (by kernel_rfl) (by kernel_rfl)⟩
  exact Lib.tabIs_of_head (g := 1) (k := .u64) (zs := Lib.pow10Tab) (by kernel_rfl) (by kernel_rfl) Tryd.underlying116 Tryd.underlying82 (by kernel_rfl) (by kernel_rfl) h2

abbrev rangeS : ByteArray := { data := #[118, 97, 108, 117, 101, 32, 111, 117, 116, 32, 111, 102, 32, 114, 97, 110, 103, 101] }
abbrev syntaxS : ByteArray := { data := #[105, 110, 118, 97, 108, 105, 100, 32, 115, 121, 110, 116, 97, 120] }
noncomputable def low : Nat := (World.holding Tryd.prog default ⟨#[], #[], []⟩).heap.size
def setTab (k : IntKind) (cs : List Int) : Obj → Obj
  | .cells _ t frozen => .cells (cs.map fun n => Value.int k n).toArray t frozen
  | o => o
def setErr (b : Nat) : Obj → Obj
  | .cells _ t frozen => .cells #[.iface 132 (.pointer (some ⟨b, 0, none⟩))] t frozen
  | o => o
def d32 : List Int := [0, 1, 28, 2, 29, 14, 24, 3, 30, 22, 20, 15, 25, 17, 4, 8, 31, 27, 13, 23, 21, 19, 16, 7, 26, 12, 18, 6, 11, 5, 10, 9]
def d64 : List Int := [0, 1, 56, 2, 57, 49, 28, 3, 61, 58, 42, 50, 38, 29, 17, 4, 62, 47, 59, 36, 45, 43, 51, 22, 53, 39, 33, 30, 24, 18, 12, 5, 63, 55, 48, 27, 60, 41, 37, 16, 46, 35, 44, 21, 52, 32, 23, 11, 54, 26, 40, 15, 34, 20, 31, 10, 25, 14, 19, 9, 13, 8, 7, 6]
def acc : List Int := [128, 191, 160, 191, 128, 159, 144, 191, 128, 143, 0, 0, 0, 0, 0, 0, 0, 0, 0, 0, 0, 0, 0, 0, 0, 0, 0, 0, 0, 0, 0, 0]
noncomputable def laidWorld (os : Os) : World :=
  let w0 := World.holding Tryd.prog os ⟨#[.cells #[.string rangeS] 134, .cells #[.string syntaxS] 134], #[], []⟩
  { w0 with heap := ((((((w0.heap.modify 1 (setTab .u64 Lib.pow10Tab)).modify 2 (setErr (low + 1))).modify 3 (setErr low)).modify 4 (setTab .u8 (Go.Pinned.utf8FirstZ.map fun (n : Nat) => (n : Int)))).modify 5 (setTab .u8 acc)).modify 6 (setTab .u8 d32)).modify 7 (setTab .u8 d64) }
end Go.Proofs.YtainnkpoibgkcaaDoor

namespace Go.Proofs.YtainnkpoibgkcaaDoor
set_option linter.unusedVariables false
set_option linter.unusedSimpArgs false
open Go.RowKit Go.Proofs.YtainnkpoibgkcaaDoor.PAll Go.Proofs.YtainnkpoibgkcaaDoorW.PrintWords Go.Proofs.YtainnkpoibgkcaaDoorW.PrintLast
namespace Js
def sh (n : Int) (x : S38) : S38 := ⟨x.f0, x.f1, x.f2, x.f3 + n⟩
/-- What may follow: nothing, or a blank first. -/
def Beh (e : List UInt8) : Prop := e = [] ∨ ∃ c r, e = c :: r ∧ bl.contains c = true
theorem pl_ext {N N' n : Nat} {l e : List UInt8} (hN : N' = N + n + e.length) (hl : l.length ≤ N) : pl N' (l ++ e) = pl N l + (n : Int) := by
  unfold pl; rw [List.length_append]; omega
theorem skip_ext {l e : List UInt8} (h : skip l ≠ []) : skip (l ++ e) = skip l ++ e := by
  unfold skip at *
  rw [List.dropWhile_append]
  rw [if_neg]
  simpa using h
theorem digs_ext {l e : List UInt8} (he : Beh e) : digs (l ++ e) = digs l := by
  unfold digs
  have h0 : e.takeWhile (dg.contains ·) = [] := by
    rcases he with rfl | ⟨c, r, rfl, hc⟩
    · rfl
    · rw [List.takeWhile_cons, if_neg]
      have : c = 9 ∨ c = 10 ∨ c = 13 ∨ c = 32 := by simpa [bl] using hc
      rcases this with rfl | rfl | rfl | rfl <;> decide
  rw [List.takeWhile_append]
  split
  · rename_i h; rw [h0, List.append_nil]
    exact ((List.takeWhile_prefix _).eq_of_length h).symm
  · rfl
theorem sign_ext {r e : List UInt8} {p : UInt8 × Nat} (h : sign r = some p) : sign (r ++ e) = some p := by
  cases r with
  | nil => cases h
  | cons c r =>
    simp only [sign, List.cons_append] at h ⊢
    cases hc : esc c with
    | some m => rw [hc] at h; exact h
    | none =>
      rw [hc] at h
      simp only at h ⊢
      split at h
      · rename_i h4
        have ht : (r ++ e).take 4 = r.take 4 := List.take_append_of_le_length h4.2.1
        rw [ht, if_pos ⟨h4.1, by rw [List.length_append]; omega, h4.2.2.1, h4.2.2.2⟩]
        exact h
      · cases h
theorem txt_ext (e : List UInt8) : ∀ (n : Nat) (l acc : List UInt8) {t rest : List UInt8}, l.length ≤ n → txt l acc = .ok t rest → txt (l ++ e) acc = .ok t (rest ++ e)
  | n, [], acc, t, rest, _, h => by rw [txt] at h; cases h
  | 0, c :: r, acc, t, rest, hn, h => by simp at hn
  | n + 1, c :: r, acc, t, rest, hn, h => by
    rw [txt] at h
    rw [List.cons_append, txt]
    by_cases h1 : c = 34
    · rw [if_pos h1] at h ⊢
      cases h; rfl
    · rw [if_neg h1] at h ⊢
      by_cases h2 : c = 92
      · rw [if_pos h2] at h ⊢
        split at h
        · cases h
        · rename_i m k hs
          have hs2 := sign_ext (e := e) hs
          have hp := sign_pos hs
          split
          · rename_i h3; rw [hs2] at h3; cases h3
          · rename_i m2 k2 h3
            rw [hs2] at h3
            cases h3
            rw [List.drop_append_of_le_length hp.2]
            exact txt_ext e n _ _ (by rw [List.length_drop]; simp at hn; omega) h
      · rw [if_neg h2] at h ⊢
        split at h
        · cases h
        · rename_i h3
          rw [if_neg h3]
          exact txt_ext e n r _ (by simp at hn; omega) h
section
variable {N N' n : Nat} {e : List UInt8}
/-- A token's result, with more behind. -/
def RX (e : List UInt8) (n : Nat) (r r' : R) : Prop := ∀ wt l st its, r = .go wt l st its → r' = .go wt (l ++ e) st (its.map (sh n))
theorem number_ext (hN : N' = N + n + e.length) (he : Beh e) {l st : List UInt8} {its : List S38} (hl : l.length ≤ N) : RX e n (number N l st its) (number N' (l ++ e) st (its.map (sh n))) := by
  intro wt l2 st2 its2 h
  unfold number at h ⊢
  rw [digs_ext he]
  cases hn : num (digs l) with
  | none => rw [hn] at h; cases h
  | some k =>
    rw [hn] at h
    simp only [R.go.injEq] at h ⊢
    obtain ⟨rfl, rfl, rfl, rfl⟩ := h
    refine ⟨rfl, List.drop_append_of_le_length (digs_le l), rfl, ?_⟩
    rw [List.map_append, pl_ext hN hl]; rfl
theorem text_ext (hN : N' = N + n + e.length) {kd : Int} {l r st : List UInt8} {its : List S38} (hl : l.length ≤ N) : RX e n (text N kd l r st its) (text N' kd (l ++ e) (r ++ e) st (its.map (sh n))) := by
  intro wt l2 st2 its2 h
  unfold text at h ⊢
  cases ht : txt r [] with
  | bad rest => rw [ht] at h; cases h
  | ok t rest =>
    rw [ht] at h
    rw [txt_ext e _ r [] (Nat.le_refl _) ht]
    simp only [R.go.injEq] at h ⊢
    obtain ⟨rfl, rfl, rfl, rfl⟩ := h
    refine ⟨rfl, rfl, rfl, ?_⟩
    rw [List.map_append, pl_ext hN hl]; rfl
theorem begin_ext (hN : N' = N + n + e.length) {c : UInt8} {l r st : List UInt8} {its : List S38} (hl : l.length ≤ N) (hr : skip r ≠ []) : RX e n (begin_ N c l r st its) (begin_ N' c (l ++ e) (r ++ e) st (its.map (sh n))) := by
  intro wt l2 st2 its2 h
  unfold begin_ at h ⊢
  split at h
  · cases h
  · rename_i h16
    rw [if_neg h16, skip_ext hr]
    simp only [R.go.injEq] at h ⊢
    obtain ⟨rfl, rfl, rfl, rfl⟩ := h
    refine ⟨?_, rfl, rfl, ?_⟩
    · unfold nxOf
      rw [skip_ext hr]
      cases hs : skip r with
      | nil => exact absurd hs hr
      | cons a b => rfl
    · rw [List.map_append, pl_ext hN hl]; rfl
theorem num_nil : num [] = none := by kernel_rfl
theorem value_nil (N : Nat) (st : List UInt8) (its : List S38) : value N [] st its = .bad (pl N []) 190 := by
  show number N [] st its = _
  unfold number
  rw [show digs [] = [] from rfl, num_nil]
/-- A list or an object that nothing follows is not whole. -/
theorem run_nil (k : Nat) (wt : Int) (en : UInt8) (st : List UInt8) (its : List S38) (l' : List UInt8) (its' : List S38) : run N k wt [] (en :: st) its ≠ some (.ok l' its') := by
  intro h
  cases k with
  | zero => simp [run] at h
  | succ k =>
    by_cases h0 : wt = 0
    · subst h0
      rw [run_value] at h
      rw [value_nil] at h
      simp [next] at h
    · by_cases h1 : wt = 1
      · subst h1
        rw [run_key] at h
        simp [key, skip, key_, next] at h
      · rw [run_more _ _ h0 h1, if_neg (by simp)] at h
        simp [more, skip, more_, next] at h
theorem value_ext (hN : N' = N + n + e.length) (he : Beh e) {l st : List UInt8} {its : List S38} (hl : l.length ≤ N) {wt : Int} {l2 st2 : List UInt8} {its2 : List S38} (h : value N l st its = .go wt l2 st2 its2) (hc : l2 ≠ [] ∨ st2 = []) :
    value N' (l ++ e) st (its.map (sh n)) = .go wt (l2 ++ e) st2 (its2.map (sh n)) := by
  have hsl := skip_le l
  cases hs : skip l with
  | nil =>
    unfold value at h
    rw [hs] at h
    have := value_nil N st its
    unfold value at this
    rw [show skip [] = [] from rfl] at this
    rw [this] at h; cases h
  | cons c r =>
    rw [hs] at hsl
    unfold value at h ⊢
    rw [skip_ext (by rw [hs]; simp), hs]
    rw [hs] at h
    simp only [value_, List.cons_append] at h ⊢
    by_cases h34 : c = 34
    · rw [if_pos h34] at h ⊢
      exact text_ext hN (l := c :: r) (by omega) _ _ _ _ h
    · rw [if_neg h34] at h ⊢
      by_cases hb : c = 91 ∨ c = 123
      · rw [if_pos hb] at h ⊢
        have hr : skip r ≠ [] := by
          intro hr
          unfold begin_ at h
          split at h
          · cases h
          · simp only [R.go.injEq] at h
            rcases hc with hc | hc
            · exact hc (by rw [← h.2.1]; exact hr)
            · rw [← h.2.2.1] at hc; cases hc
        exact begin_ext hN (l := c :: r) (by omega) hr _ _ _ _ h
      · rw [if_neg hb] at h ⊢
        exact number_ext hN he (l := c :: r) (by omega) _ _ _ _ h
theorem key_ext (hN : N' = N + n + e.length) {l st : List UInt8} {its : List S38} (hl : l.length ≤ N) : RX e n (key N l st its) (key N' (l ++ e) st (its.map (sh n))) := by
  intro wt l2 st2 its2 h
  have hsl := skip_le l
  cases hs : skip l with
  | nil => unfold key at h; rw [hs] at h; cases h
  | cons c r =>
    rw [hs] at hsl
    unfold key at h ⊢
    rw [skip_ext (by rw [hs]; simp), hs]
    rw [hs] at h
    simp only [key_, List.cons_append] at h ⊢
    split at h
    · rename_i h34
      rw [if_pos h34]
      cases ht : txt r [] with
      | bad rest => rw [ht] at h; cases h
      | ok t rest =>
        rw [ht] at h
        rw [txt_ext e _ r [] (Nat.le_refl _) ht]
        simp only at h ⊢
        cases hs2 : skip rest with
        | nil => rw [hs2] at h; cases h
        | cons c2 r2 =>
          rw [skip_ext (by rw [hs2]; simp), hs2]
          rw [hs2] at h
          simp only [colon, List.cons_append] at h ⊢
          split at h
          · rename_i h58
            rw [if_pos h58]
            simp only [R.go.injEq] at h ⊢
            obtain ⟨rfl, rfl, rfl, rfl⟩ := h
            refine ⟨rfl, rfl, rfl, ?_⟩
            have := pl_ext (l := c :: r) hN (by omega)
            simp only [List.cons_append] at this
            rw [List.map_append, this]; rfl
          · cases h
    · cases h
theorem more_ext (hN : N' = N + n + e.length) {l st : List UInt8} {its : List S38} (hl : l.length ≤ N) : RX e n (more N l st its) (more N' (l ++ e) st (its.map (sh n))) := by
  intro wt l2 st2 its2 h
  cases st with
  | nil => cases h
  | cons en st =>
    have hsl := skip_le l
    cases hs : skip l with
    | nil => unfold more at h; simp only at h; rw [hs] at h; cases h
    | cons c r =>
      rw [hs] at hsl
      unfold more at h ⊢
      simp only at h ⊢
      rw [skip_ext (by rw [hs]; simp), hs]
      rw [hs] at h
      simp only [more_, List.cons_append] at h ⊢
      by_cases h1 : c = en
      · rw [if_pos h1] at h ⊢
        simp only [R.go.injEq] at h ⊢
        obtain ⟨rfl, rfl, rfl, rfl⟩ := h
        refine ⟨rfl, rfl, rfl, ?_⟩
        have := pl_ext (l := c :: r) hN (by omega)
        simp only [List.cons_append] at this
        rw [List.map_append, this]; rfl
      · rw [if_neg h1] at h ⊢
        split at h
        · rename_i h2
          rw [if_pos h2]
          simp only [R.go.injEq] at h ⊢
          obtain ⟨rfl, rfl, rfl, rfl⟩ := h
          exact ⟨rfl, rfl, rfl, rfl⟩
        · cases h
theorem run_ext (hN : N' = N + n + e.length) (he : Beh e) : ∀ (k : Nat) (wt : Int) (l st : List UInt8) (its : List S38) (l' : List UInt8) (its' : List S38), l.length ≤ N → run N k wt l st its = some (.ok l' its') → run N' k wt (l ++ e) st (its.map (sh n)) = some (.ok (l' ++ e) (its'.map (sh n)))
  | 0, wt, l, st, its, l', its', _, h => by simp [run] at h
  | k + 1, wt, l, st, its, l', its', hl, h => by
    by_cases h0 : wt = 0
    · subst h0
      rw [run_value] at h ⊢
      cases hv : value N l st its with
      | bad a c => rw [hv] at h; simp [next] at h
      | go wt2 l2 st2 its2 =>
        rw [hv] at h
        simp only [next] at h
        have hc : l2 ≠ [] ∨ st2 = [] := by
          cases st2 with
          | nil => exact .inr rfl
          | cons en s2 =>
            refine .inl fun h2 => ?_
            subst h2
            exact run_nil k wt2 en s2 its2 l' its' h
        rw [value_ext hN he hl hv hc]
        simp only [next]
        exact run_ext hN he k wt2 l2 st2 its2 l' its' (by have := value_short hv; omega) h
    · by_cases h1 : wt = 1
      · subst h1
        rw [run_key] at h ⊢
        cases hv : key N l st its with
        | bad a c => rw [hv] at h; simp [next] at h
        | go wt2 l2 st2 its2 =>
          rw [hv] at h
          rw [key_ext hN hl _ _ _ _ hv]
          simp only [next] at h ⊢
          exact run_ext hN he k wt2 l2 st2 its2 l' its' (by have := key_short hv; omega) h
      · rw [run_more _ _ h0 h1] at h ⊢
        split at h
        · rename_i hst
          rw [if_pos hst]
          simp only [Option.some.injEq, Fin.ok.injEq] at h ⊢
          obtain ⟨rfl, rfl⟩ := h
          exact ⟨rfl, rfl⟩
        · rename_i hst
          rw [if_neg hst]
          cases hv : more N l st its with
          | bad a c => rw [hv] at h; simp [next] at h
          | go wt2 l2 st2 its2 =>
            rw [hv] at h
            rw [more_ext hN hl _ _ _ _ hv]
            simp only [next] at h ⊢
            exact run_ext hN he k wt2 l2 st2 its2 l' its' (by have := more_short hv; omega) h
theorem run_mono : ∀ (k : Nat) (wt : Int) (l st : List UInt8) (its : List S38) (F : Fin), run N k wt l st its = some F → run N (k + 1) wt l st its = some F
  | 0, wt, l, st, its, F, h => by simp [run] at h
  | k + 1, wt, l, st, its, F, h => by
    have hn : ∀ r, next N k r = some F → next N (k + 1) r = some F := fun r h => by
      cases r with
      | bad a c => exact h
      | go wt l st its => exact run_mono k wt l st its F h
    by_cases h0 : wt = 0
    · subst h0; rw [run_value] at h ⊢; exact hn _ h
    · by_cases h1 : wt = 1
      · subst h1; rw [run_key] at h ⊢; exact hn _ h
      · rw [run_more _ _ h0 h1] at h ⊢
        split at h
        · rename_i hst; rw [if_pos hst]; exact h
        · rename_i hst; rw [if_neg hst]; exact hn _ h
theorem run_more_fuel {k k' : Nat} (hk : k ≤ k') {wt : Int} {l st : List UInt8} {its : List S38} {F : Fin} (h : run N k wt l st its = some F) : run N k' wt l st its = some F := by
  induction hk with
  | refl => exact h
  | step _ ih => exact run_mono _ _ _ _ _ _ ih
end
theorem skip_blank {b : List UInt8} (hb : b.all (bl.contains ·) = true) (l : List UInt8) : skip (b ++ l) = skip l := by
  unfold skip
  rw [List.dropWhile_append_of_pos (fun x hx => List.all_eq_true.1 hb x hx)]
theorem skip_all {l : List UInt8} (h : skip l = []) : l.all (bl.contains ·) = true := by
  induction l with
  | nil => rfl
  | cons c l ih =>
    unfold skip at h ih
    rw [List.dropWhile_cons] at h
    split at h
    · rename_i hc
      rw [List.all_cons, hc, ih h]; rfl
    · cases h
/-- What a text parses to, with blanks ahead, and more behind. -/
theorem parse_moved {s l : List UInt8} {its : List S38} (h : parse s = .ok l its) {b e : List UInt8} (hb : b.all (bl.contains ·) = true) (he : Beh e) :
    parse (b ++ s ++ e) = if skip e = [] then .ok [] (its.map (sh b.length)) else .bad (pl (b ++ s ++ e).length (skip e)) 190 := by
  unfold parse at h
  obtain ⟨F, hF⟩ := run_some s.length (s.length + 1) 0 s [] [] (Nat.lt_succ_self _)
  rw [hF] at h
  cases F with
  | bad a c => cases h
  | ok l2 its2 =>
    simp only [fin] at h
    split at h
    · rename_i hsk
      simp only [Fin.ok.injEq] at h
      obtain ⟨_, rfl⟩ := h
      have hN : (b ++ s ++ e).length = s.length + b.length + e.length := by simp only [List.length_append]; omega
      have hx := run_ext hN he (s.length + 1) 0 s [] [] l2 its2 (Nat.le_refl _) hF
      have hy : run (b ++ s ++ e).length (s.length + 1) 0 (b ++ s ++ e) [] [] = some (.ok (l2 ++ e) (its2.map (sh b.length))) := by
        rw [run_value] at hx ⊢
        have hv : value (b ++ s ++ e).length (b ++ s ++ e) [] [] = value (b ++ s ++ e).length (s ++ e) [] (([] : List S38).map (sh b.length)) := by
          unfold value
          rw [List.append_assoc, skip_blank hb]; rfl
        rw [hv]; exact hx
      have hz := run_more_fuel (k' := (b ++ s ++ e).length + 1) (by omega) hy
      unfold parse
      rw [hz]
      simp only [fin]
      rw [skip_blank (skip_all hsk)]
    · cases h
/-- What is wrong is told by one of two numbers. -/
theorem run_code (N : Nat) : ∀ (k : Nat) (wt : Int) (l st : List UInt8) (its : List S38) (a c : Int), run N k wt l st its = some (.bad a c) → c = 190 ∨ c = 191
  | 0, wt, l, st, its, a, c, h => by simp [run] at h
  | k + 1, wt, l, st, its, a, c, h => by
    have hn : ∀ r, (∀ a c, r = .bad a c → c = 190 ∨ c = 191) → next N k r = some (.bad a c) → c = 190 ∨ c = 191 := fun r hr h => by
      cases r with
      | bad a' c' =>
        simp only [next, Option.some.injEq, Fin.bad.injEq] at h
        rw [← h.2]; exact hr _ _ rfl
      | go wt l st its => exact run_code N k wt l st its a c h
    have hnum : ∀ l st its a c, number N l st its = .bad a c → c = 190 ∨ c = 191 := fun l st its a c h => by
      unfold number at h; split at h <;> simp at h; exact .inl h.2.symm
    have htx : ∀ kd l r st its a c, text N kd l r st its = .bad a c → c = 190 ∨ c = 191 := fun kd l r st its a c h => by
      unfold text at h; split at h <;> simp at h; exact .inl h.2.symm
    by_cases h0 : wt = 0
    · subst h0; rw [run_value] at h
      refine hn _ (fun a c hv => ?_) h
      unfold value at hv
      cases hs : skip l with
      | nil => rw [hs] at hv; exact hnum [] st its _ _ hv
      | cons x r =>
        rw [hs] at hv
        simp only [value_] at hv
        split at hv
        · exact htx _ _ _ _ _ _ _ hv
        · split at hv
          · unfold begin_ at hv
            split at hv
            · simp only [R.bad.injEq] at hv; exact .inr hv.2.symm
            · cases hv
          · exact hnum _ _ _ _ _ hv
    · by_cases h1 : wt = 1
      · subst h1; rw [run_key] at h
        refine hn _ (fun a c hv => ?_) h
        unfold key at hv
        cases hs : skip l with
        | nil => rw [hs] at hv; simp only [key_, R.bad.injEq] at hv; exact .inl hv.2.symm
        | cons x r =>
          rw [hs] at hv
          simp only [key_] at hv
          split at hv
          · split at hv
            · rename_i t rest ht
              cases hs2 : skip rest with
              | nil => rw [hs2] at hv; simp only [colon, R.bad.injEq] at hv; exact .inl hv.2.symm
              | cons y r2 =>
                rw [hs2] at hv
                simp only [colon] at hv
                split at hv
                · cases hv
                · simp only [R.bad.injEq] at hv; exact .inl hv.2.symm
            · simp only [R.bad.injEq] at hv; exact .inl hv.2.symm
          · simp only [R.bad.injEq] at hv; exact .inl hv.2.symm
      · rw [run_more _ _ h0 h1] at h
        split at h
        · cases h
        · rename_i hst
          refine hn _ (fun a c hv => ?_) h
          cases st with
          | nil => exact absurd rfl hst
          | cons en st =>
            unfold more at hv
            simp only at hv
            cases hs : skip l with
            | nil => rw [hs] at hv; simp only [more_, R.bad.injEq] at hv; exact .inl hv.2.symm
            | cons x r =>
              rw [hs] at hv
              simp only [more_] at hv
              split at hv
              · cases hv
              · split at hv
                · cases hv
                · simp only [R.bad.injEq] at hv; exact .inl hv.2.symm
theorem parse_code {s : List UInt8} {a c : Int} (h : parse s = .bad a c) : c = 190 ∨ c = 191 := by
  unfold parse at h
  obtain ⟨F, hF⟩ := run_some s.length (s.length + 1) 0 s [] [] (Nat.lt_succ_self _)
  rw [hF] at h
  cases F with
  | bad a' c' =>
    simp only [fin, Fin.bad.injEq] at h
    rw [← h.2]; exact run_code _ _ _ _ _ _ _ _ hF
  | ok l its =>
    simp only [fin] at h
    split at h
    · cases h
    · simp only [Fin.bad.injEq] at h; exact .inl h.2.symm
end Js
end Go.Proofs.YtainnkpoibgkcaaDoor
namespace Go.Proofs.YtainnkpoibgkcaaDoor
set_option linter.unusedVariables false
set_option linter.unusedSimpArgs false
open Go.RowKit Go.Proofs.YtainnkpoibgkcaaDoor.PAll Go.Proofs.YtainnkpoibgkcaaDoorW.PrintWords Go.Proofs.YtainnkpoibgkcaaDoorW.PrintLast
namespace Js
/-- At most one item more, and its place lies in the text. -/
def Grow (N : Nat) (its its2 : List S38) : Prop := its2 = its ∨ ∃ x, its2 = its ++ [x] ∧ 0 ≤ x.f3 ∧ x.f3 ≤ (N : Int)
theorem pl_in (N : Nat) (l : List UInt8) : 0 ≤ pl N l ∧ pl N l ≤ (N : Int) := by unfold pl; omega
section
variable {N : Nat} {l st : List UInt8} {its : List S38} {wt : Int} {l2 st2 : List UInt8} {its2 : List S38}
theorem number_grow (h : number N l st its = .go wt l2 st2 its2) : Grow N its its2 := by
  unfold number at h; split at h
  · simp only [R.go.injEq] at h; exact .inr ⟨_, h.2.2.2.symm, pl_in N l⟩
  · cases h
theorem text_grow {kd : Int} {r : List UInt8} (h : text N kd l r st its = .go wt l2 st2 its2) : Grow N its its2 := by
  unfold text at h; split at h
  · simp only [R.go.injEq] at h; exact .inr ⟨_, h.2.2.2.symm, pl_in N l⟩
  · cases h
theorem value_grow (h : value N l st its = .go wt l2 st2 its2) : Grow N its its2 := by
  unfold value at h
  cases hs : skip l with
  | nil => rw [hs] at h; exact number_grow (l := []) (st := st) h
  | cons c r =>
    rw [hs] at h
    simp only [value_] at h
    split at h
    · exact text_grow h
    · split at h
      · unfold begin_ at h; split at h
        · cases h
        · simp only [R.go.injEq] at h; exact .inr ⟨_, h.2.2.2.symm, pl_in N _⟩
      · exact number_grow h
theorem key_grow (h : key N l st its = .go wt l2 st2 its2) : Grow N its its2 := by
  unfold key at h
  cases hs : skip l with
  | nil => rw [hs] at h; cases h
  | cons c r =>
    rw [hs] at h
    simp only [key_] at h
    split at h
    · split at h
      · rename_i t rest ht
        cases hs2 : skip rest with
        | nil => rw [hs2] at h; cases h
        | cons c2 r2 =>
          rw [hs2] at h
          simp only [colon] at h
          split at h
          · simp only [R.go.injEq] at h; exact .inr ⟨_, h.2.2.2.symm, pl_in N _⟩
          · cases h
      · cases h
    · cases h
theorem more_grow (h : more N l st its = .go wt l2 st2 its2) : Grow N its its2 := by
  unfold more at h
  cases st with
  | nil => cases h
  | cons en st =>
    simp only at h
    cases hs : skip l with
    | nil => rw [hs] at h; cases h
    | cons c r =>
      rw [hs] at h
      simp only [more_] at h
      split at h
      · simp only [R.go.injEq] at h; exact .inr ⟨_, h.2.2.2.symm, pl_in N _⟩
      · split at h
        · simp only [R.go.injEq] at h; exact .inl h.2.2.2.symm
        · cases h
end
def Within (N : Nat) (its : List S38) : Prop := ∀ x ∈ its, 0 ≤ x.f3 ∧ x.f3 ≤ (N : Int)
theorem Grow.within {N : Nat} {its its2 : List S38} (h : Grow N its its2) (hw : Within N its) : Within N its2 ∧ its2.length ≤ its.length + 1 := by
  rcases h with rfl | ⟨x, rfl, hx⟩
  · exact ⟨hw, Nat.le_succ _⟩
  · refine ⟨fun y hy => ?_, by simp⟩
    rcases List.mem_append.1 hy with hy | hy
    · exact hw y hy
    · rw [List.mem_singleton.1 hy]; exact hx
theorem run_within (N : Nat) : ∀ (k : Nat) (wt : Int) (l st : List UInt8) (its : List S38) (l' : List UInt8) (its' : List S38), Within N its → run N k wt l st its = some (.ok l' its') → Within N its' ∧ its'.length ≤ its.length + l.length
  | 0, wt, l, st, its, l', its', hw, h => by simp [run] at h
  | k + 1, wt, l, st, its, l', its', hw, h => by
    have hn : ∀ r, (∀ wt2 l2 st2 its2, r = .go wt2 l2 st2 its2 → Grow N its its2 ∧ l2.length < l.length) → next N k r = some (.ok l' its') → Within N its' ∧ its'.length ≤ its.length + l.length := fun r hr h => by
      cases r with
      | bad a c => simp [next] at h
      | go wt2 l2 st2 its2 =>
        obtain ⟨hg, hl⟩ := hr _ _ _ _ rfl
        obtain ⟨h1, h2⟩ := hg.within hw
        simp only [next] at h
        obtain ⟨h3, h4⟩ := run_within N k wt2 l2 st2 its2 l' its' h1 h
        exact ⟨h3, by omega⟩
    by_cases h0 : wt = 0
    · subst h0; rw [run_value] at h
      exact hn _ (fun _ _ _ _ hv => ⟨value_grow hv, value_short hv⟩) h
    · by_cases h1 : wt = 1
      · subst h1; rw [run_key] at h
        exact hn _ (fun _ _ _ _ hv => ⟨key_grow hv, key_short hv⟩) h
      · rw [run_more _ _ h0 h1] at h
        split at h
        · simp only [Option.some.injEq, Fin.ok.injEq] at h
          obtain ⟨rfl, rfl⟩ := h
          exact ⟨hw, by omega⟩
        · exact hn _ (fun _ _ _ _ hv => ⟨more_grow hv, more_short hv⟩) h
theorem parse_within {s l : List UInt8} {its : List S38} (h : parse s = .ok l its) : Within s.length its ∧ its.length ≤ s.length := by
  unfold parse at h
  obtain ⟨F, hF⟩ := run_some s.length (s.length + 1) 0 s [] [] (Nat.lt_succ_self _)
  rw [hF] at h
  cases F with
  | bad a c => cases h
  | ok l2 its2 =>
    simp only [fin] at h
    split at h
    · simp only [Fin.ok.injEq] at h
      obtain ⟨_, rfl⟩ := h
      have := run_within s.length _ 0 s [] [] l2 its2 (fun x hx => by simp at hx) hF
      simpa using this
    · cases h
end Js
/-- An item as the document's. -/
def to39 (x : S38) : S39 := ⟨x.f0, x.f1, x.f2, x.f3⟩
theorem its_l0 (x0 : List S38) (hx : x0.length ≤ 100000) : ∀ (m i k : Nat) (x3 : List S39), x0.length - i = m → i ≤ x0.length → x3.length ≤ i → m < k → entrepotlaw19_its.l0 k x0 x3 (i : Int) = some (x3 ++ (x0.drop i).map to39)
  | m, i, 0, x3, _, _, _, hk => by omega
  | 0, i, k + 1, x3, hm, hi, h3, hk => by
    rw [entrepotlaw19_its.l0, if_neg (by omega), List.drop_eq_nil_of_le (by omega)]; simp
  | m + 1, i, k + 1, x3, hm, hi, h3, hk => by
    have hi : i < x0.length := by omega
    rw [entrepotlaw19_its.l0, if_pos (by omega), if_pos (by omega), if_pos (by omega), show wrap64 ((i : Int) + 1) = ((i + 1 : Nat) : Int) by unfold wrap64; omega]
    rw [its_l0 x0 hx m (i + 1) k _ (by omega) (by omega) (by simp; omega) (by omega)]
    have e : rd_T38 x0 (i : Int) = x0[i] := by unfold rd_T38; rw [Int.toNat_natCast, List.getD_eq_getElem?_getD, List.getElem?_eq_getElem hi]; rfl
    rw [List.drop_eq_getElem_cons hi, e, List.map_cons, List.append_assoc]
    rfl
theorem its_f (x0 : List S38) (hx : x0.length ≤ 100000) (k : Nat) (hk : x0.length < k) : entrepotlaw19_its.f k x0 = some (x0.map to39) := by
  unfold entrepotlaw19_its.f
  have := its_l0 x0 hx x0.length 0 k [] (by omega) (by omega) (by simp) hk
  simpa using this
theorem same_l0 (x0 : List S39) (hx : x0.length ≤ 100000) : ∀ (m i k : Nat), x0.length - i = m → i ≤ x0.length → m < k → entrepotref19_Same.l0 k x0 x0 (i : Int) = some true
  | m, i, 0, _, _, hk => by omega
  | 0, i, k + 1, hm, hi, hk => by rw [entrepotref19_Same.l0, if_neg (by omega)]
  | m + 1, i, k + 1, hm, hi, hk => by
    rw [entrepotref19_Same.l0, if_pos (by omega), if_pos (by omega), if_pos (by omega), if_neg (by simp), show wrap64 ((i : Int) + 1) = ((i + 1 : Nat) : Int) by unfold wrap64; omega]
    exact same_l0 x0 hx m (i + 1) k (by omega) (by omega) (by omega)
theorem same_f (x0 : List S39) (hx : x0.length ≤ 100000) (k : Nat) (hk : x0.length < k) : entrepotref19_Same.f k x0 x0 = some true := by
  unfold entrepotref19_Same.f
  rw [if_pos rfl]
  exact same_l0 x0 hx x0.length 0 k (by omega) (by omega) hk
def mv (n : Int) (y : S39) : S39 := ⟨y.f0, y.f1, y.f2, wrap64 (y.f3 + n)⟩
theorem blanks_l2 (x9 : ByteArray) (x11 : Int) (x13 : List S38) (d0 d1 : Int) (xs : List S39) (hx : xs.length ≤ 100000) : ∀ (m i k : Nat), xs.length - i = m → i ≤ xs.length → m < k →
    entrepotlaw19_JsonicBlanks.l2 k x9 x11 x13 ((xs.take i).map (mv x11) ++ xs.drop i) (i : Int) d0 d1 = entrepotlaw19_JsonicBlanks.l2 (k - m) x9 x11 x13 (xs.map (mv x11)) (xs.length : Int) d0 d1
  | m, i, 0, _, _, hk => by omega
  | 0, i, k + 1, hm, hi, hk => by
    have e : i = xs.length := by omega
    rw [e, List.take_length, List.drop_length, List.append_nil]; rfl
  | m + 1, i, k + 1, hm, hi, hk => by
    have hi : i < xs.length := by omega
    have hl : ((xs.take i).map (mv x11) ++ xs.drop i).length = xs.length := by simp; omega
    have e : rd_T39 ((xs.take i).map (mv x11) ++ xs.drop i) (i : Int) = xs[i] := by
      unfold rd_T39
      rw [Int.toNat_natCast, List.getD_eq_getElem?_getD, List.getElem?_append_right (by simp; omega)]
      simp only [List.length_map, List.length_take, Nat.min_eq_left (Nat.le_of_lt hi), Nat.sub_self]
      rw [List.getElem?_drop, Nat.add_zero, List.getElem?_eq_getElem hi]; rfl
    rw [show k + 1 - (m + 1) = k - m by omega, ← blanks_l2 x9 x11 x13 d0 d1 xs hx m (i + 1) k (by omega) (by omega) (by omega)]
    rw [entrepotlaw19_JsonicBlanks.l2, if_pos (by rw [hl]; omega), if_pos (by omega), show wrap64 ((i : Int) + 1) = ((i + 1 : Nat) : Int) by unfold wrap64; omega, e]
    congr 1
    rw [Int.toNat_natCast, List.set_append_right _ _ (by simp; omega)]
    simp only [List.length_map, List.length_take, Nat.min_eq_left (Nat.le_of_lt hi), Nat.sub_self]
    rw [List.drop_eq_getElem_cons hi, List.set_cons_zero, List.take_succ_eq_append_getElem hi, List.map_append, List.append_assoc]
    rfl
theorem rd_blank4 (y : List ByteArray) (hy : y.length = 4) (i : Nat) (hi : i < 4) : rdOf ByteArray.empty y (i : Int) ∈ y := by
  unfold rdOf
  rw [Int.toNat_natCast, List.getD_eq_getElem?_getD, List.getElem?_eq_getElem (by omega)]
  exact List.getElem_mem _
theorem one_blank {x : ByteArray} (h : x ∈ [(⟨#[32]⟩ : ByteArray), ⟨#[10]⟩, ⟨#[9]⟩, ⟨#[13]⟩]) : ∃ c, x.data.toList = [c] ∧ Js.bl.contains c = true := by
  simp only [List.mem_cons, List.mem_nil_iff, or_false] at h
  rcases h with rfl | rfl | rfl | rfl
  · exact ⟨32, rfl, by decide⟩
  · exact ⟨10, rfl, by decide⟩
  · exact ⟨9, rfl, by decide⟩
  · exact ⟨13, rfl, by decide⟩
theorem app_data (a b : ByteArray) : (a ++ b).data.toList = a.data.toList ++ b.data.toList := by simp
theorem blanks_l0 (a0 : ByteArray) (x1 x2 : Int) (x7 : List S38) (mm : Nat) (hmm : Int.tmod (wrap64 x1) 4 = (mm : Int)) (hm4 : mm < 4) (hs : a0.size ≤ 500) : ∀ (m i k : Nat) (x9 : ByteArray) (b : List UInt8), mm - i = m → i ≤ mm → m < k → x9.data.toList = b ++ a0.data.toList → b.all (Js.bl.contains ·) = true → b.length = i →
    ∃ (x9' : ByteArray) (b' : List UInt8), x9'.data.toList = b' ++ a0.data.toList ∧ b'.all (Js.bl.contains ·) = true ∧ b'.length = mm ∧ entrepotlaw19_JsonicBlanks.l0 k a0 x1 x2 x7 x9 (i : Int) = entrepotlaw19_JsonicBlanks.l1 (k - m - 1) x2 x7 x9' (mm : Int) 0
  | m, i, 0, x9, b, _, _, hk, _, _, _ => by omega
  | 0, i, k + 1, x9, b, hm, hi, hk, h9, hb, hbl => by
    have hsz : x9.size = i + a0.size := by rw [← size_len, h9, List.length_append, hbl, size_len]
    refine ⟨x9, b, h9, hb, by omega, ?_⟩
    rw [entrepotlaw19_JsonicBlanks.l0, hmm, if_neg (by omega), show wrap64 ((x9.size : Int) - (a0.size : Int)) = (mm : Int) by unfold wrap64; omega]
    rfl
  | m + 1, i, k + 1, x9, b, hm, hi, hk, h9, hb, hbl => by
    have hsz : x9.size = i + a0.size := by rw [← size_len, h9, List.length_append, hbl, size_len]
    obtain ⟨c, hc1, hc2⟩ := one_blank (rd_blank4 [(⟨#[32]⟩ : ByteArray), ⟨#[10]⟩, ⟨#[9]⟩, ⟨#[13]⟩] rfl i (by omega))
    rw [entrepotlaw19_JsonicBlanks.l0, hmm, if_pos (by omega)]
    simp only [Option.bind_some]
    rw [if_pos (by omega), if_pos (by simp; omega)]
    generalize hx : rdOf ByteArray.empty [(⟨#[32]⟩ : ByteArray), ⟨#[10]⟩, ⟨#[9]⟩, ⟨#[13]⟩] (i : Int) = x at hc1 ⊢
    have hx1 : x.size = 1 := by rw [← size_len, hc1]; rfl
    rw [if_pos (by omega), show wrap64 ((i : Int) + 1) = ((i + 1 : Nat) : Int) by unfold wrap64; omega]
    obtain ⟨x9', b', h1, h2, h3, h4⟩ := blanks_l0 a0 x1 x2 x7 mm hmm hm4 hs m (i + 1) k (x ++ x9) (c :: b) (by omega) (by omega) (by omega) (by rw [app_data, hc1, h9]; rfl) (by rw [List.all_cons, hc2, hb]; rfl) (by simp [hbl])
    exact ⟨x9', b', h1, h2, h3, by rw [h4]; congr 1; omega⟩
theorem one_blank2 {x : ByteArray} (h : x ∈ [(⟨#[13]⟩ : ByteArray), ⟨#[32]⟩, ⟨#[10]⟩, ⟨#[9]⟩]) : ∃ c, x.data.toList = [c] ∧ Js.bl.contains c = true := by
  simp only [List.mem_cons, List.mem_nil_iff, or_false] at h
  rcases h with rfl | rfl | rfl | rfl
  · exact ⟨13, rfl, by decide⟩
  · exact ⟨32, rfl, by decide⟩
  · exact ⟨10, rfl, by decide⟩
  · exact ⟨9, rfl, by decide⟩
theorem blanks_l1 (x2 : Int) (x7 : List S38) (x11 : Int) (p : List UInt8) (hp : p.length ≤ 600) (mm : Nat) (hmm : Int.tmod (wrap64 x2) 4 = (mm : Int)) (hm4 : mm < 4) : ∀ (m i k : Nat) (x9 : ByteArray) (b : List UInt8), mm - i = m → i ≤ mm → m < k → x9.data.toList = p ++ b → b.all (Js.bl.contains ·) = true → b.length = i →
    ∃ (x9' : ByteArray) (b' : List UInt8), x9'.data.toList = p ++ b' ∧ b'.all (Js.bl.contains ·) = true ∧ b'.length = mm ∧ entrepotlaw19_JsonicBlanks.l1 k x2 x7 x9 x11 (i : Int) = (jsonic_Parse.f x9').bind fun bt214 => (entrepotlaw19_its.f (k - m - 1) x7).bind fun t220 => entrepotlaw19_JsonicBlanks.l2 (k - m - 1) x9' x11 bt214.1 t220 0 bt214.2.1 bt214.2.2
  | m, i, 0, x9, b, _, _, hk, _, _, _ => by omega
  | 0, i, k + 1, x9, b, hm, hi, hk, h9, hb, hbl => by
    refine ⟨x9, b, h9, hb, by omega, ?_⟩
    rw [entrepotlaw19_JsonicBlanks.l1, hmm, if_neg (by omega)]
    rfl
  | m + 1, i, k + 1, x9, b, hm, hi, hk, h9, hb, hbl => by
    have hsz : x9.size = p.length + i := by rw [← size_len, h9, List.length_append, hbl]
    obtain ⟨c, hc1, hc2⟩ := one_blank2 (rd_blank4 [(⟨#[13]⟩ : ByteArray), ⟨#[32]⟩, ⟨#[10]⟩, ⟨#[9]⟩] rfl i (by omega))
    rw [entrepotlaw19_JsonicBlanks.l1, hmm, if_pos (by omega)]
    simp only [Option.bind_some]
    rw [if_pos (by omega), if_pos (by simp; omega)]
    generalize hx : rdOf ByteArray.empty [(⟨#[13]⟩ : ByteArray), ⟨#[32]⟩, ⟨#[10]⟩, ⟨#[9]⟩] (i : Int) = x at hc1 ⊢
    have hx1 : x.size = 1 := by rw [← size_len, hc1]; rfl
    rw [if_pos (by omega), show wrap64 ((i : Int) + 1) = ((i + 1 : Nat) : Int) by unfold wrap64; omega]
    obtain ⟨x9', b', h1, h2, h3, h4⟩ := blanks_l1 x2 x7 x11 p hp mm hmm hm4 m (i + 1) k (x9 ++ x) (b ++ [c]) (by omega) (by omega) (by omega) (by rw [app_data, hc1, h9, List.append_assoc]) (by rw [List.all_append, hb]; simp only [List.all_cons, List.all_nil, hc2]; rfl) (by simp [hbl])
    exact ⟨x9', b', h1, h2, h3, by rw [h4, show k - m - 1 = k + 1 - (m + 1) - 1 by omega]⟩
theorem beh_blank {b : List UInt8} (hb : b.all (Js.bl.contains ·) = true) : Js.Beh b := by
  cases b with
  | nil => exact .inl rfl
  | cons c r => rw [List.all_cons, Bool.and_eq_true] at hb; exact .inr ⟨c, r, rfl, hb.1⟩
theorem beh_more {b : List UInt8} (hb : b.all (Js.bl.contains ·) = true) : Js.Beh (b ++ [32, 93]) := by
  cases b with
  | nil => exact .inr ⟨32, [93], rfl, by decide⟩
  | cons c r => rw [List.all_cons, Bool.and_eq_true] at hb; exact .inr ⟨c, r ++ [32, 93], rfl, hb.1⟩
theorem skip_blanks {b : List UInt8} (hb : b.all (Js.bl.contains ·) = true) : Js.skip b = [] := by
  have := Js.skip_blank hb []
  rw [List.append_nil] at this
  exact this
theorem tmod4 (a : Int) (h0 : 0 ≤ a) (h1 : a ≤ 255) : ∃ m : Nat, m < 4 ∧ Int.tmod (wrap64 a) 4 = (m : Int) := by
  refine ⟨a.toNat % 4, by omega, ?_⟩
  rw [show wrap64 a = a by unfold wrap64; omega, Int.tmod_eq_emod_of_nonneg h0]
  omega
theorem jsonicBlanks_pure : entrepotlaw19_JsonicBlanks.Pure := by
  intro a0 a1 a2 _ w1 w2
  have h1 : 0 ≤ a1 ∧ a1 ≤ 255 := by simpa [Lit.wf, IntKind.min, IntKind.max, IntKind.signed, IntKind.bits] using w1
  have h2 : 0 ≤ a2 ∧ a2 ≤ 255 := by simpa [Lit.wf, IntKind.min, IntKind.max, IntKind.signed, IntKind.bits] using w2
  obtain ⟨K, hK⟩ : ∃ K : Nat, K = 3000 := ⟨_, rfl⟩
  refine ⟨K + 1, ?_⟩
  unfold entrepotlaw19_JsonicBlanks.f
  by_cases hbig : (a0.size : Int) > 500
  · rw [if_pos hbig, entrepotlaw19_JsonicBlanks.j0, if_pos rfl]; rfl
  · rw [if_neg hbig]
    have hs : a0.size ≤ 500 := by omega
    show entrepotlaw19_JsonicBlanks.j0 (K + 1) a0 a1 a2 (!true) = some true
    rw [entrepotlaw19_JsonicBlanks.j0, if_neg (by decide)]
    have hpf : jsonic_Parse.f a0 = some (parseR (Js.parse a0.data.toList)) := by unfold jsonic_Parse.f; rw [if_pos (by omega)]
    cases hp : Js.parse a0.data.toList with
    | bad a c =>
      have hc := Js.parse_code hp
      rw [hp] at hpf
      have hpf : jsonic_Parse.f a0 = some ([], a, c) := hpf
      rw [hpf, Option.bind_some, if_neg (by show ¬ c = 0; omega)]; rfl
    | ok l its =>
      rw [hp] at hpf
      have hpf : jsonic_Parse.f a0 = some (its, 0, 0) := hpf
      rw [hpf, Option.bind_some, if_pos rfl]
      show entrepotlaw19_JsonicBlanks.l0 K a0 a1 a2 its a0 0 = some true
      obtain ⟨hwi, hle⟩ := Js.parse_within hp
      rw [size_len] at hwi hle
      obtain ⟨ma, hma, hta⟩ := tmod4 a1 h1.1 h1.2
      obtain ⟨mb, hmb, htb⟩ := tmod4 a2 h2.1 h2.2
      obtain ⟨x9, b, hx9, hb, hbl, e1⟩ := blanks_l0 a0 a1 a2 its ma hta hma hs ma 0 K a0 [] (by omega) (by omega) (by omega) rfl rfl rfl
      rw [show ((0 : Nat) : Int) = 0 from rfl] at e1
      rw [e1]
      have hp9 : (b ++ a0.data.toList).length ≤ 600 := by rw [List.length_append, size_len]; omega
      obtain ⟨x9', eb, hx9', heb, hebl, e2⟩ := blanks_l1 a2 its (ma : Int) (b ++ a0.data.toList) hp9 mb htb hmb mb 0 (K - ma - 1) x9 [] (by omega) (by omega) (by omega) (by rw [hx9, List.append_nil]) rfl rfl
      rw [show ((0 : Nat) : Int) = 0 from rfl] at e2
      rw [e2]
      have hsz : x9'.size = ma + a0.size + mb := by rw [← size_len, hx9', List.length_append, List.length_append, size_len]; omega
      have hpm := Js.parse_moved hp hb (beh_blank heb)
      rw [skip_blanks heb, if_pos rfl, ← hx9', hbl] at hpm
      have hpf2 : jsonic_Parse.f x9' = some (its.map (Js.sh ma), 0, 0) := by unfold jsonic_Parse.f; rw [if_pos (by omega), hpm]; rfl
      rw [hpf2]
      simp only [Option.bind_some]
      obtain ⟨J, hJ⟩ : ∃ J, K - ma - 1 - mb - 1 = J + 1 + its.length := ⟨K - ma - 1 - mb - 1 - 1 - its.length, by omega⟩
      have hJ2 : 1000 ≤ J := by omega
      rw [hJ]
      rw [its_f its (by omega) _ (by omega)]
      simp only [Option.bind_some]
      have hl2 := blanks_l2 x9' (ma : Int) (its.map (Js.sh ma)) 0 0 (its.map to39) (by simp; omega) its.length 0 (J + 1 + its.length) (by simp) (by simp) (by omega)
      simp only [List.take_zero, List.map_nil, List.nil_append, List.drop_zero] at hl2
      rw [show ((0 : Nat) : Int) = 0 from rfl] at hl2
      rw [hl2, show J + 1 + its.length - its.length = J + 1 by omega]
      rw [entrepotlaw19_JsonicBlanks.l2, if_neg (by simp), if_pos (by omega)]
      have hpm2 := Js.parse_moved hp hb (beh_more heb)
      have hsk : Js.skip (eb ++ [32, 93]) = [93] := by rw [Js.skip_blank heb]; rfl
      rw [hsk, if_neg (by simp), ← List.append_assoc, ← hx9'] at hpm2
      have hdat : (x9' ++ (⟨#[32, 93]⟩ : ByteArray)).data.toList = x9'.data.toList ++ [32, 93] := by rw [app_data]
      have hpl : Js.pl (x9'.data.toList ++ [32, 93]).length [93] = (x9'.size : Int) + 1 := by
        unfold Js.pl; rw [List.length_append, size_len]; simp only [List.length_cons, List.length_nil]; omega
      rw [hpl] at hpm2
      have hpf3 : jsonic_Parse.f (x9' ++ (⟨#[32, 93]⟩ : ByteArray)) = some ([], (x9'.size : Int) + 1, 190) := by
        unfold jsonic_Parse.f
        rw [if_pos (by rw [← size_len, hdat, List.length_append, size_len]; simp only [List.length_cons, List.length_nil]; omega), hdat, hpm2]; rfl
      rw [hpf3]
      simp only [Option.bind_some]
      rw [if_pos (by simp), its_f _ (by simp; omega) _ (by simp; omega)]
      simp only [Option.bind_some]
      have hsame : (its.map to39).map (mv (ma : Int)) = (its.map (Js.sh ma)).map to39 := by
        rw [List.map_map, List.map_map]
        refine List.map_congr_left fun x hx => ?_
        have := hwi x hx
        simp only [Function.comp, mv, to39, Js.sh]
        rw [show wrap64 (x.f3 + (ma : Int)) = x.f3 + (ma : Int) by unfold wrap64; omega]
      rw [hsame, same_f _ (by simp; omega) _ (by simp; omega)]
      simp only [Option.bind_some]
      rw [show wrap64 ((x9'.size : Int) + 1) = (x9'.size : Int) + 1 by unfold wrap64; omega]
      simp
end Go.Proofs.YtainnkpoibgkcaaDoor
