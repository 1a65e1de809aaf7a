/- jsonic.Parse, walked by hand, as the plain function has it. Conditions: texts of at most 1000000000 bytes; the listed variables lie as told. -/
import Derived.Test.YtainnkpoibgkcaaDoorGivenL
namespace Go.Proofs.YtainnkpoibgkcaaDoor
set_option linter.unusedVariables false
set_option linter.unusedSimpArgs false
open Go.RowKit Go.Proofs.YtainnkpoibgkcaaDoor.PAll Go.Proofs.YtainnkpoibgkcaaDoorW.PrintWords Go.Proofs.YtainnkpoibgkcaaDoorW.PrintLast

namespace Js
inductive Fin where
  | ok (l : List UInt8) (its : List S38)
  | bad (at_ : Int) (code : Int)
def run (N : Nat) : Nat → Int → List UInt8 → List UInt8 → List S38 → Option Fin
  | 0, _, _, _, _ => none
  | k + 1, wt, l, st, its =>
    if wt = 0 then (match value N l st its with
      | .go wt l st its => run N k wt l st its
      | .bad a c => some (.bad a c))
    else if wt = 1 then (match key N l st its with
      | .go wt l st its => run N k wt l st its
      | .bad a c => some (.bad a c))
    else if st = [] then some (.ok l its)
    else (match more N l st its with
      | .go wt l st its => run N k wt l st its
      | .bad a c => some (.bad a c))
def next (N k : Nat) (r : R) : Option Fin := match r with
  | .go wt l st its => run N k wt l st its
  | .bad a c => some (.bad a c)
theorem run_value (N k : Nat) (l st : List UInt8) (its : List S38) : run N (k + 1) 0 l st its = next N k (value N l st its) := by
  unfold run next; rw [if_pos rfl]
theorem run_key (N k : Nat) (l st : List UInt8) (its : List S38) : run N (k + 1) 1 l st its = next N k (key N l st its) := by
  unfold run next; rw [if_neg (by decide), if_pos rfl]
theorem run_more (N k : Nat) {wt : Int} (h0 : wt ≠ 0) (h1 : wt ≠ 1) (l st : List UInt8) (its : List S38) : run N (k + 1) wt l st its = if st = [] then some (.ok l its) else next N k (more N l st its) := by
  unfold run next; rw [if_neg h0, if_neg h1]
/-- What a text parses to: its items; or what is wrong, and where. -/
def fin (N : Nat) (f : Fin) : Fin := match f with
  | .ok l its => if skip l = [] then .ok [] its else .bad (pl N (skip l)) 190
  | .bad a c => .bad a c
def parse (l : List UInt8) : Fin := match run l.length (l.length + 1) 0 l [] [] with
  | some f => fin l.length f
  | none => .bad 0 0
section
variable {N : Nat} {l st its : List UInt8}
theorem number_short {its : List S38} {wt : Int} {l' st' : List UInt8} {its' : List S38} (h : number N l st its = .go wt l' st' its') : l'.length < l.length := by
  unfold number at h
  split at h
  · rename_i k hk
    simp only [R.go.injEq] at h
    have h0 : 1 ≤ (digs l).length := by
      cases hd : digs l with
      | nil => rw [hd] at hk; cases hk
      | cons c r => simp
    have := digs_le l
    rw [← h.2.1, List.length_drop]; omega
  · cases h
theorem text_short {its : List S38} {kd : Int} {r : List UInt8} {wt : Int} {l' st' : List UInt8} {its' : List S38} (h : text N kd l r st its = .go wt l' st' its') : l'.length < r.length := by
  unfold text at h
  split at h
  · rename_i t rest ht
    simp only [R.go.injEq] at h
    rw [← h.2.1]; exact (txt_rest _ _ _ (Nat.le_refl _) ht).2
  · cases h
theorem value_short {its : List S38} {wt : Int} {l' st' : List UInt8} {its' : List S38} (h : value N l st its = .go wt l' st' its') : l'.length < l.length := by
  unfold value at h
  have hs := skip_le l
  cases hl : skip l with
  | nil => rw [hl] at h hs; have := number_short (show number N [] st its = _ from h); simp at this
  | cons c r =>
    rw [hl] at h hs
    simp only [value_] at h
    simp only [List.length_cons] at hs
    split at h
    · have := text_short h; omega
    · split at h
      · unfold begin_ at h
        split at h
        · cases h
        · simp only [R.go.injEq] at h
          have := skip_le r
          rw [← h.2.1]; omega
      · have := number_short h; simp at this; omega
theorem key_short {its : List S38} {wt : Int} {l' st' : List UInt8} {its' : List S38} (h : key N l st its = .go wt l' st' its') : l'.length < l.length := by
  unfold key at h
  have hs := skip_le l
  cases hl : skip l with
  | nil => rw [hl] at h; cases h
  | cons c r =>
    rw [hl] at h hs
    simp only [key_] at h
    simp only [List.length_cons] at hs
    split at h
    · split at h
      · rename_i t rest ht
        have h1 := (txt_rest _ _ _ (Nat.le_refl _) ht).2
        have h2 := skip_le rest
        cases hl2 : skip rest with
        | nil => rw [hl2] at h; cases h
        | cons c2 r2 =>
          rw [hl2] at h h2
          simp only [colon] at h
          simp only [List.length_cons] at h2
          split at h
          · simp only [R.go.injEq] at h; rw [← h.2.1]; omega
          · cases h
      · cases h
    · cases h
theorem more_short {its : List S38} {wt : Int} {l' st' : List UInt8} {its' : List S38} (h : more N l st its = .go wt l' st' its') : l'.length < l.length := by
  unfold more at h
  cases st with
  | nil => cases h
  | cons en st =>
    have hs := skip_le l
    cases hl : skip l with
    | nil => rw [hl] at h; cases h
    | cons c r =>
      rw [hl] at h hs
      simp only [more_] at h
      simp only [List.length_cons] at hs
      split at h
      · simp only [R.go.injEq] at h; rw [← h.2.1]; omega
      · split at h
        · simp only [R.go.injEq] at h; rw [← h.2.1]; omega
        · cases h
end
theorem run_some (N : Nat) : ∀ (k : Nat) (wt : Int) (l st : List UInt8) (its : List S38), l.length < k → ∃ f, run N k wt l st its = some f
  | 0, _, _, _, _, h => by omega
  | k + 1, wt, l, st, its, h => by
    unfold run
    split
    · cases hv : value N l st its with
      | go wt' l' st' its' => exact run_some N k wt' l' st' its' (by have := value_short hv; omega)
      | bad a c => exact ⟨_, rfl⟩
    · split
      · cases hv : key N l st its with
        | go wt' l' st' its' => exact run_some N k wt' l' st' its' (by have := key_short hv; omega)
        | bad a c => exact ⟨_, rfl⟩
      · split
        · exact ⟨_, rfl⟩
        · cases hv : more N l st its with
          | go wt' l' st' its' => exact run_some N k wt' l' st' its' (by have := more_short hv; omega)
          | bad a c => exact ⟨_, rfl⟩
end Js
/-- What holds at the head of each round. -/
def PRel (w0 : World) (base B : Nat) (s : ByteArray) (F : Js.Fin) (t5 t6 : Value) (wr : World) : Prop :=
  ∃ wt : Int, t5 = .int .i64 wt ∧ Below base w0 wr ∧ ((t6 = .bool true ∧ ∃ l st its k, ML wr base B s l st its ∧ Js.run s.size k wt l st its = some F) ∨ (t6 = .bool false ∧ ∃ q st its a c, MS wr base B s q st its a c ∧ F = .bad a c))
def mP (s : ByteArray) (B : Nat) (t6 : Value) (wr : World) : Nat := match t6 with
  | .bool true => 1 + (s.size - posAt B wr)
  | _ => 0
theorem ML.pos {w : World} {base B : Nat} {s : ByteArray} {l st : List UInt8} {its : List S38} (h : ML w base B s l st its) : posAt B w = s.size - l.length ∧ l.length ≤ s.size := by
  obtain ⟨q, hq, hl, _, _, _, hM⟩ := h
  rw [hM.pos, ← hl, List.length_drop, size_len]; omega
theorem fresh_ms (w1 : World) (s : ByteArray) (base : Nat) (hb : base ≤ w1.heap.size) : MS (w1.alloc (.cells (mc s 0 (fun _ => 0) 0 (.slice none 0 0) 0 0) 67)) base w1.heap.size s 0 [] [] 0 0 :=
  ⟨fun _ => 0, .slice none 0 0, Array.getElem?_push_size, World.ownsRow_nil _ _ _ _, hb, fun i hi => by simp at hi⟩
/-- What a token's walk leaves, as the round's relation. -/
theorem rpost_prel {w0 wr w' : World} {base B L k : Nat} {s : ByteArray} {r : Js.R} {F : Js.Fin} {e : Ending} (h : RPost wr base B s r e w') (hb : Below base w0 wr)
    (hrun : Js.next s.size k r = some F)
    (hsh : ∀ wt l st its, r = .go wt l st its → l.length < L) : ∃ (x : Int) (b : Bool), e = .returned (.tuple #[.int .i64 x, .bool b]) ∧ PRel w0 base B s F (.int .i64 x) (.bool b) w' ∧ mP s B (.bool b) w' < 1 + L := by
  cases r with
  | go wt l st its =>
    obtain ⟨rfl, h1, h2⟩ := h
    refine ⟨wt, true, rfl, ⟨wt, rfl, hb.trans h2, .inl ⟨rfl, l, st, its, k, h1, hrun⟩⟩, ?_⟩
    have hp := h1.pos
    have := hsh _ _ _ _ rfl
    simp only [mP, hp.1]; omega
  | bad a c =>
    obtain ⟨⟨x, rfl⟩, ⟨q, st, its, h1⟩, h2⟩ := h
    refine ⟨x, false, rfl, ⟨x, rfl, hb.trans h2, .inr ⟨rfl, q, st, its, a, c, h1, ?_⟩⟩, ?_⟩
    · simp only [Js.next, Option.some.injEq] at hrun; exact hrun.symm
    · simp only [mP]; omega
theorem ownsRow_le {w : World} {b b' e z n : Nat} {v : Value} {xs : List Value} (h : w.ownsRow b e z v n xs) (hb : b' ≤ b) : w.ownsRow b' e z v n xs := by
  refine ⟨h.1, ?_⟩
  rcases h.2 with h2 | ⟨g, cap, cur, rfl, h3, h4⟩
  · exact .inl h2
  · exact .inr ⟨g, cap, cur, rfl, by omega, h4⟩
end Go.Proofs.YtainnkpoibgkcaaDoor
