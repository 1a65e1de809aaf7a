/- jsonic's writer in plain Lean; what its steps are bound by. No conditions. -/
import Derived.Test.YtainnkpoibgkcaaDoorGivenQ
namespace Go.Proofs.YtainnkpoibgkcaaDoor
set_option linter.unusedVariables false
set_option linter.unusedSimpArgs false
open Go.RowKit Go.Proofs.YtainnkpoibgkcaaDoor.PAll Go.Proofs.YtainnkpoibgkcaaDoorW.PrintWords Go.Proofs.YtainnkpoibgkcaaDoorW.PrintLast

namespace Js
abbrev Pr := Option (List UInt8 × List S38)
def pre (a : List UInt8) : Pr → Pr
  | some (o, r) => some (a ++ o, r)
  | none => none
def pq (x : S38) (r : List S38) : Pr := match quote x.f2.data.toList with
  | some q => some (q, r)
  | none => none
/-- One of an object's, or of a list's. -/
def pone (v : List S38 → Pr) (obj : Bool) (l : List S38) : Pr :=
  if obj then (match l with
    | [] => none
    | x :: r => if x.f0 = 6 then (match quote x.f2.data.toList with
      | some q => pre (q ++ [58]) (v r)
      | none => none) else none)
  else v l
mutual
/-- The text of the value that these items begin with; and what is left of them. -/
def pval : Nat → Nat → List S38 → Pr
  | 0, _, _ => none
  | _ + 1, _, [] => none
  | k + 1, d, x :: r =>
    if x.f0 = 1 then (if -100000000 ≤ x.f1 ∧ x.f1 ≤ 100000000 then some (Lib.itoa x.f1, r) else none)
    else if x.f0 = 2 then pq x r
    else if d = 16 then none
    else if x.f0 = 3 then pre [91] (pmany k d false true r)
    else if x.f0 = 4 then pre [123] (pmany k d true true r)
    else none
def pmany : Nat → Nat → Bool → Bool → List S38 → Pr
  | 0, _, _, _, _ => none
  | _ + 1, _, _, _, [] => none
  | k + 1, d, obj, first, x :: r =>
    if x.f0 = 5 then some ([if obj then 125 else 93], r)
    else match pone (pval k (d + 1)) obj (x :: r) with
      | some (o, r') => pre ((if first then [] else [44]) ++ o) (pmany k d obj false r')
      | none => none
end
def osz : List S38 → Nat
  | [] => 0
  | x :: r => 6 * x.f2.size + 30 + osz r
/-- What is left is an end of it, shorter; what is written fits. -/
def Fits (l : List S38) (p : Pr) : Prop := ∀ o r, p = some (o, r) → o.length + osz r + 1 ≤ osz l ∧ r <:+ l ∧ r.length < l.length
theorem osz_suffix {r l : List S38} (h : r <:+ l) : osz r ≤ osz l := by
  obtain ⟨t, rfl⟩ := h
  induction t with
  | nil => exact Nat.le_refl _
  | cons x t ih => simp only [List.cons_append, osz]; omega
theorem fits_pq (x : S38) (r : List S38) : ∀ o r', pq x r = some (o, r') → o.length ≤ 6 * x.f2.size + 2 ∧ r' = r := by
  intro o r' h
  unfold pq at h
  split at h
  · rename_i q hq
    simp only [Option.some.injEq, Prod.mk.injEq] at h
    obtain ⟨rfl, rfl⟩ := h
    exact ⟨quote_len hq, rfl⟩
  · cases h
theorem pone_fits {v : List S38 → Pr} (hv : ∀ l, Fits l (v l)) (obj : Bool) (l : List S38) : ∀ o r, pone v obj l = some (o, r) → o.length + osz r + 1 ≤ osz l ∧ r <:+ l ∧ r.length < l.length := by
  intro o r h
  unfold pone at h
  cases obj with
  | false =>
    simp only [Bool.false_eq_true, if_false] at h ⊢
    have := hv l o r h
    exact ⟨by omega, this.2⟩
  | true =>
    simp only [if_true] at h ⊢
    cases l with
    | nil => cases h
    | cons x r0 =>
      simp only at h
      split at h
      · split at h
        · rename_i q hq
          cases hvr : v r0 with
          | none => rw [hvr] at h; cases h
          | some p =>
            obtain ⟨o', r'⟩ := p
            rw [hvr] at h
            simp only [pre, Option.some.injEq, Prod.mk.injEq] at h
            obtain ⟨rfl, rfl⟩ := h
            have h1 := hv r0 o' r' hvr
            have h2 := quote_len hq
            rw [size_len] at h2
            refine ⟨?_, h1.2.1.trans (List.suffix_cons _ _), by simp; omega⟩
            simp only [List.length_append, List.length_cons, List.length_nil, osz]; omega
        · cases h
      · cases h
theorem itoa_small {n : Int} (h : -100000000 ≤ n ∧ n ≤ 100000000) : (Lib.itoa n).length ≤ 21 := Lib.itoa_length_le n (by omega) (by omega)
theorem fits_all : ∀ (k : Nat), (∀ d l, Fits l (pval k d l)) ∧ (∀ d obj first l o r, pmany k d obj first l = some (o, r) → o.length + osz r ≤ osz l + (if first then 0 else 1) ∧ r <:+ l ∧ r.length < l.length)
  | 0 => ⟨fun d l o r h => by simp [pval] at h, fun d obj first l o r h => by simp [pmany] at h⟩
  | k + 1 => by
    obtain ⟨ihv, ihm⟩ := fits_all k
    constructor
    · intro d l o r h
      cases l with
      | nil => simp [pval] at h
      | cons x r0 =>
        have hend : ∀ (b : UInt8) obj, pre [b] (pmany k d obj true r0) = some (o, r) → o.length + osz r + 1 ≤ osz (x :: r0) ∧ r <:+ x :: r0 ∧ r.length < (x :: r0).length := by
          intro b obj h
          cases hm : pmany k d obj true r0 with
          | none => rw [hm] at h; cases h
          | some p =>
            obtain ⟨o', r'⟩ := p
            rw [hm] at h
            simp only [pre, Option.some.injEq, Prod.mk.injEq] at h
            obtain ⟨rfl, rfl⟩ := h
            have h1 := ihm d obj true r0 o' r' hm
            simp only [if_true] at h1
            refine ⟨?_, h1.2.1.trans (List.suffix_cons _ _), by simp; omega⟩
            simp only [List.length_append, List.length_cons, List.length_nil, osz]; omega
        simp only [pval] at h
        split at h
        · split at h
          · rename_i hn
            simp only [Option.some.injEq, Prod.mk.injEq] at h
            obtain ⟨rfl, rfl⟩ := h
            have := itoa_small hn
            exact ⟨by simp only [osz]; omega, List.suffix_cons _ _, by simp⟩
          · cases h
        · split at h
          · have h1 := fits_pq x r0 o r h
            obtain ⟨h1, rfl⟩ := h1
            exact ⟨by simp only [osz]; omega, List.suffix_cons _ _, by simp⟩
          · split at h
            · cases h
            · split at h
              · exact hend _ _ h
              · split at h
                · exact hend _ _ h
                · cases h
    · intro d obj first l o r h
      cases l with
      | nil => simp [pmany] at h
      | cons x r0 =>
        simp only [pmany] at h
        split at h
        · simp only [Option.some.injEq, Prod.mk.injEq] at h
          obtain ⟨rfl, rfl⟩ := h
          exact ⟨by simp only [osz, List.length_cons, List.length_nil]; split <;> omega, List.suffix_cons _ _, by simp⟩
        · cases ho : pone (pval k (d + 1)) obj (x :: r0) with
          | none => rw [ho] at h; cases h
          | some p =>
            obtain ⟨o1, r1⟩ := p
            rw [ho] at h
            simp only at h
            have h1 := pone_fits (ihv (d + 1)) obj (x :: r0) o1 r1 ho
            cases hm : pmany k d obj false r1 with
            | none => rw [hm] at h; cases h
            | some p =>
              obtain ⟨o2, r2⟩ := p
              rw [hm] at h
              simp only [pre, Option.some.injEq, Prod.mk.injEq] at h
              obtain ⟨rfl, rfl⟩ := h
              have h2 := ihm d obj false r1 o2 r2 hm
              refine ⟨?_, h2.2.1.trans h1.2.1, by omega⟩
              simp only [Bool.false_eq_true, if_false] at h2
              cases first <;> simp only [List.length_append, List.length_cons, List.length_nil, if_true, if_false, Bool.false_eq_true] <;> omega
end Js
end Go.Proofs.YtainnkpoibgkcaaDoor
