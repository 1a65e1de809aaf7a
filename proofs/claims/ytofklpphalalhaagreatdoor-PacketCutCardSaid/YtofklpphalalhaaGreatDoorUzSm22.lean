/- small, in plain words: it always answers, and where it says yes the plan has few stops that all can be put. Conditions: none. -/
import Derived.Test.YtofklpphalalhaaGreatDoorUzPAllx8
import Derived.Test.YtofklpphalalhaaGreatDoorUzJ13
namespace Go.Proofs.YtofklpphalalhaaGreatDoor.Sm22
set_option linter.unusedVariables false
set_option linter.unusedSimpArgs false
open Go.RowKit Go.Proofs.YtofklpphalalhaaGreatDoor.PAll Go.Proofs.YtofklpphalalhaaGreatDoorW.PrintWords Go.Proofs.YtofklpphalalhaaGreatDoorW.PrintLast
def In1 (r : List Int) : Prop := r.length ≤ 300 ∧ ∀ x ∈ r, -2305843009213693952 ≤ x ∧ x ≤ 2305843009213693951
def Ok (rs : List (List Int)) : Prop := rs.length ≤ 60 ∧ (rs.map List.length).sum ≤ 300 ∧ ∀ r ∈ rs, In1 r
theorem rd_get (rs : List (List Int)) (i : Nat) (h : i < rs.length) : rd_L4 rs (i : Int) = rs[i] := by
  unfold rd_L4
  rw [Int.toNat_natCast, List.getD_eq_getElem?_getD, List.getElem?_eq_getElem h]; rfl
theorem j1_false (rs : List (List Int)) (i n : Nat) (hi : rs.length ≤ i ∨ 70 ≤ i) (hil : i ≤ rs.length) (hn : n = ((rs.take i).map List.length).sum) (hr : ∀ r ∈ rs.take i, In1 r) :
    ∃ b, Ev (fun k => entrepotlaw22_small.j1 k (n : Int) (i : Int) false rs) b ∧ (b = true → Ok rs) := by
  by_cases h : rs.length ≤ 60
  · refine ⟨decide ((n : Int) ≤ 300), ⟨1, fun k hk => ?_⟩, fun hb => ?_⟩
    · obtain ⟨m, rfl⟩ : ∃ m, k = m + 1 := ⟨k - 1, by omega⟩
      simp only [entrepotlaw22_small.j1]
      rw [if_neg (by simp), if_pos (by omega)]
    · have hb := of_decide_eq_true hb
      have e : rs.take i = rs := List.take_of_length_le (by omega)
      rw [e] at hn hr
      exact ⟨h, by omega, hr⟩
  · refine ⟨false, ⟨1, fun k hk => ?_⟩, fun hb => by cases hb⟩
    obtain ⟨m, rfl⟩ : ∃ m, k = m + 1 := ⟨k - 1, by omega⟩
    simp only [entrepotlaw22_small.j1]
    rw [if_neg (by simp), if_neg (by omega)]
theorem l1_ev' (rs : List (List Int)) (i n : Nat) (hi : i < rs.length) (h70 : i < 70) (H : (∀ x ∈ rs[i], -2305843009213693952 ≤ x ∧ x ≤ 2305843009213693951) → ∃ b, Ev (fun k => entrepotlaw22_small.l0 k (n : Int) ((i + 1 : Nat) : Int) rs) b ∧ (b = true → Ok rs)) (hlen : rs[i].length ≤ 300) (d : Nat) :
    ∀ j : Nat, j + d = rs[i].length → (∀ x ∈ rs[i].take j, -2305843009213693952 ≤ x ∧ x ≤ 2305843009213693951) → ∃ b, Ev (fun k => entrepotlaw22_small.l1 k (n : Int) (i : Int) (j : Int) rs) b ∧ (b = true → Ok rs) := by
  induction d with
  | zero =>
    intro j hj hx
    rw [List.take_of_length_le (by omega)] at hx
    obtain ⟨b, hb, hP⟩ := H hx
    refine ⟨b, ?_, hP⟩
    refine Ev.step (fun k => ?_) hb
    show entrepotlaw22_small.l1 (k + 1) (n : Int) (i : Int) (j : Int) rs = _
    simp only [entrepotlaw22_small.l1]
    rw [rd_get rs i hi, if_pos (by omega), if_pos (by omega), if_neg (by omega), Evs.w64 _ (by omega) (by omega)]
    rfl
  | succ d ih =>
    intro j hj hx
    have hjl : j < rs[i].length := by omega
    have hrd : rd rs[i] (j : Int) = rs[i][j] := by
      unfold rd
      rw [Int.toNat_natCast, List.getD_eq_getElem?_getD, List.getElem?_eq_getElem hjl]; rfl
    by_cases h1 : rs[i][j] < -2305843009213693952
    · refine ⟨false, ⟨1, fun k hk => ?_⟩, fun hb => by cases hb⟩
      obtain ⟨m, rfl⟩ : ∃ m, k = m + 1 := ⟨k - 1, by omega⟩
      simp only [entrepotlaw22_small.l1]
      rw [rd_get rs i hi, if_pos (by omega), if_pos (by omega), if_pos (by omega), if_pos (by omega), hrd, if_pos h1]
    · by_cases h2 : rs[i][j] > 2305843009213693951
      · refine ⟨false, ⟨1, fun k hk => ?_⟩, fun hb => by cases hb⟩
        obtain ⟨m, rfl⟩ : ∃ m, k = m + 1 := ⟨k - 1, by omega⟩
        simp only [entrepotlaw22_small.l1]
        rw [rd_get rs i hi, if_pos (by omega), if_pos (by omega), if_pos (by omega), if_pos (by omega), hrd, if_neg h1, if_pos h2]
      · obtain ⟨b, hb, hP⟩ := ih (j + 1) (by omega) (fun x hm => by
          rw [List.take_succ_eq_append_getElem hjl, List.mem_append, List.mem_singleton] at hm
          rcases hm with hm | rfl
          · exact hx x hm
          · exact ⟨by omega, by omega⟩)
        refine ⟨b, ?_, hP⟩
        refine Ev.step (fun k => ?_) hb
        show entrepotlaw22_small.l1 (k + 1) (n : Int) (i : Int) (j : Int) rs = _
        simp only [entrepotlaw22_small.l1]
        rw [rd_get rs i hi, if_pos (by omega), if_pos (by omega), if_pos (by omega), if_pos (by omega), hrd, if_neg h1, if_neg h2, Evs.w64 _ (by omega) (by omega)]
        rfl
theorem l0_ev (rs : List (List Int)) (d : Nat) : ∀ i n : Nat, i + d = 71 → i ≤ rs.length → n = ((rs.take i).map List.length).sum → n ≤ 300 * i → (∀ r ∈ rs.take i, In1 r) → ∃ b, Ev (fun k => entrepotlaw22_small.l0 k (n : Int) (i : Int) rs) b ∧ (b = true → Ok rs) := by
  induction d with
  | zero =>
    intro i n hi hil hn hnb hr
    by_cases hlt : i < rs.length
    · obtain ⟨b, hb, hP⟩ := j1_false rs i n (.inr (by omega)) hil hn hr
      refine ⟨b, ?_, hP⟩
      refine Ev.step (fun k => ?_) hb
      show entrepotlaw22_small.l0 (k + 1) (n : Int) (i : Int) rs = _
      simp only [entrepotlaw22_small.l0]
      rw [if_pos (by omega), decide_eq_false (by omega)]
    · obtain ⟨b, hb, hP⟩ := j1_false rs i n (.inl (by omega)) hil hn hr
      refine ⟨b, ?_, hP⟩
      refine Ev.step (fun k => ?_) hb
      show entrepotlaw22_small.l0 (k + 1) (n : Int) (i : Int) rs = _
      simp only [entrepotlaw22_small.l0]
      rw [if_neg (by omega)]
  | succ d ih =>
    intro i n hi hil hn hnb hr
    by_cases hlt : i < rs.length
    · by_cases h70 : i < 70
      · have key : ∃ b, Ev (fun k => entrepotlaw22_small.j1 k (n : Int) (i : Int) true rs) b ∧ (b = true → Ok rs) := by
          by_cases hl : rs[i].length > 300
          · refine ⟨false, ⟨1, fun k hk => ?_⟩, fun hb => by cases hb⟩
            obtain ⟨m, rfl⟩ : ∃ m, k = m + 1 := ⟨k - 1, by omega⟩
            simp only [entrepotlaw22_small.j1]
            rw [if_pos trivial, if_pos (by omega), if_pos (by omega), rd_get rs i hlt, if_pos (by omega)]
          · have H : (∀ x ∈ rs[i], -2305843009213693952 ≤ x ∧ x ≤ 2305843009213693951) → ∃ b, Ev (fun k => entrepotlaw22_small.l0 k ((n + rs[i].length : Nat) : Int) ((i + 1 : Nat) : Int) rs) b ∧ (b = true → Ok rs) := fun hx => by
              refine ih (i + 1) (n + rs[i].length) (by omega) (by omega) ?_ (by omega) (fun r hm => ?_)
              · rw [List.take_succ_eq_append_getElem hlt, List.map_append, List.sum_append, hn]; simp
              · rw [List.take_succ_eq_append_getElem hlt, List.mem_append, List.mem_singleton] at hm
                rcases hm with hm | rfl
                · exact hr r hm
                · exact ⟨by omega, hx⟩
            obtain ⟨b, hb, hP⟩ := l1_ev' rs i (n + rs[i].length) hlt h70 H (by omega) rs[i].length 0 (by omega) (fun x hm => by simp at hm)
            refine ⟨b, ?_, hP⟩
            refine Ev.step (fun k => ?_) hb
            show entrepotlaw22_small.j1 (k + 1) (n : Int) (i : Int) true rs = _
            simp only [entrepotlaw22_small.j1]
            rw [if_pos trivial, if_pos (by omega), if_pos (by omega), rd_get rs i hlt, if_neg (by omega), Evs.w64 _ (by omega) (by omega)]
            rfl
        obtain ⟨b, hb, hP⟩ := key
        refine ⟨b, ?_, hP⟩
        refine Ev.step (fun k => ?_) hb
        show entrepotlaw22_small.l0 (k + 1) (n : Int) (i : Int) rs = _
        simp only [entrepotlaw22_small.l0]
        rw [if_pos (by omega), decide_eq_true (by omega)]
      · obtain ⟨b, hb, hP⟩ := j1_false rs i n (.inr (by omega)) hil hn hr
        refine ⟨b, ?_, hP⟩
        refine Ev.step (fun k => ?_) hb
        show entrepotlaw22_small.l0 (k + 1) (n : Int) (i : Int) rs = _
        simp only [entrepotlaw22_small.l0]
        rw [if_pos (by omega), decide_eq_false (by omega)]
    · obtain ⟨b, hb, hP⟩ := j1_false rs i n (.inl (by omega)) hil hn hr
      refine ⟨b, ?_, hP⟩
      refine Ev.step (fun k => ?_) hb
      show entrepotlaw22_small.l0 (k + 1) (n : Int) (i : Int) rs = _
      simp only [entrepotlaw22_small.l0]
      rw [if_neg (by omega)]
/-- It always answers. -/
theorem small (rs : List (List Int)) : ∃ b, (∃ k, entrepotlaw22_small.f k rs = some b) ∧ (b = true → Ok rs) := by
  obtain ⟨b, hb, hP⟩ := l0_ev rs 71 0 0 (by omega) (by omega) rfl (by omega) (fun r hm => by simp at hm)
  exact ⟨b, hb.rounds, hP⟩
end Go.Proofs.YtofklpphalalhaaGreatDoor.Sm22
