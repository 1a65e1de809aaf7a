/- jsonic's Parse, as the printed texts read it. Conditions: a text of at most 1000000000 bytes; the variables that the shelf reads lie as listed. -/
import Derived.Test.YtainnkpoibgkcaaDoorGivenN
namespace Go.Proofs.YtainnkpoibgkcaaDoor
set_option linter.unusedVariables false
set_option linter.unusedSimpArgs false
open Go.RowKit Go.Proofs.YtainnkpoibgkcaaDoor.PAll Go.Proofs.YtainnkpoibgkcaaDoorW.PrintWords Go.Proofs.YtainnkpoibgkcaaDoorW.PrintLast

theorem reps_flat (w : World) (base : Nat) (ok : Nat → Prop) (xs : List S38) : Reps (k38.M w base ok) 4 xs (flat xs) := by
  suffices h : ∀ (ys xs : List S38), Reps (k38.M w base ok) 4 ys (flat ys) → Reps (k38.M w base ok) 4 (ys ++ xs) (flat (ys ++ xs)) from h [] xs (Reps.none _ _)
  intro ys xs
  induction xs generalizing ys with
  | nil => intro h; rwa [List.append_nil]
  | cons x xs ih =>
    intro h
    have := ih (ys ++ [x]) (by
      rw [flat_append]
      have e : flat [x] = itc x := by simp [flat]
      rw [e]
      exact h.snoc (k38_mkM w base ok x) rfl)
    rwa [List.append_assoc] at this
theorem R_of_own {w : World} {base n : Nat} {v : Value} {l : List S38} (h : w.ownsRow base 38 4 v n (flat l)) : Kd.R k38 38 w base (fun _ => True) v l := by
  have hl : l.length = n := by have := h.1; rw [flat_len] at this; omega
  exact ⟨fun _ _ => trivial, flat l, by rw [hl]; exact h, reps_flat _ _ _ _⟩
def parseR (f : Js.Fin) : List S38 × Int × Int := match f with
  | .ok _ its => (its, 0, 0)
  | .bad a c => ([], a, c)
def jsonic_Parse.f (a0 : ByteArray) : Option (List S38 × Int × Int) := if a0.size ≤ 1000000000 then some (parseR (Js.parse a0.data.toList)) else none
theorem jsonic_Parse.calls (a0 : ByteArray) (r : List S38) (r1 r2 : Int) (w : World) (HT : Tab w) (h : jsonic_Parse.f a0 = some (r, r1, r2)) :
    Calls Tryd.prog 15 #[.string a0] w fun e w' => ∃ v0_, e = .returned (.tuple #[v0_, .agg #[.int .i64 r1, .int .i64 r2]]) ∧ Kd.R k38 38 w' w.heap.size (fun _ => True) v0_ r ∧ Below w.heap.size w w' := by
  unfold jsonic_Parse.f at h
  split at h
  · rename_i hs
    have h := Option.some.inj h
    refine (parse_walk a0 w hs HT).mono ?_
    intro e w' hh
    cases hp : Js.parse a0.data.toList with
    | ok l its =>
      rw [hp] at hh h
      simp only [parseR, Prod.mk.injEq] at h
      obtain ⟨rfl, rfl, rfl⟩ := h
      obtain ⟨v, rfl, ho, hb⟩ := hh
      exact ⟨v, rfl, R_of_own ho, hb⟩
    | bad a c =>
      rw [hp] at hh h
      simp only [parseR, Prod.mk.injEq] at h
      obtain ⟨rfl, rfl, rfl⟩ := h
      obtain ⟨rfl, hb⟩ := hh
      exact ⟨.slice none 0 0, rfl, R_of_own (l := []) (World.ownsRow_nil _ _ _ _), hb⟩
  · exact absurd h (by simp)
end Go.Proofs.YtainnkpoibgkcaaDoor
