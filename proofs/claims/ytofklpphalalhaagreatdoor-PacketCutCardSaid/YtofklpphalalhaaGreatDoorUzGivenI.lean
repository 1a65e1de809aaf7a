/- Rows of cells of a kind whose elements are flat; Clone of nodes and of numbers. Conditions: at most 1000000000. -/
import Derived.Test.YtofklpphalalhaaGreatDoorUzJ7
namespace Go.Proofs.YtofklpphalalhaaGreatDoor
set_option linter.unusedVariables false
set_option linter.unusedSimpArgs false
open Go.RowKit Go.Proofs.YtofklpphalalhaaGreatDoor.PAll Go.Proofs.YtofklpphalalhaaGreatDoorW.PrintWords Go.Proofs.YtofklpphalalhaaGreatDoorW.PrintLast Go.Proofs.YtofklpphalalhaaGreatDoorW.PrintMore
section
variable {α : Type} {K : Kd α} {enc : α → List Value}
theorem reps_enc {R : α → List Value → Prop} {z : Nat} (hM : ∀ x, R x (enc x)) (hz : ∀ x, (enc x).length = z) (xs : List α) : Reps R z xs (xs.flatMap enc) := by
  suffices h : ∀ (ys xs : List α), Reps R z ys (ys.flatMap enc) → Reps R z (ys ++ xs) ((ys ++ xs).flatMap enc) from h [] xs (Reps.none _ _)
  intro ys xs
  induction xs generalizing ys with
  | nil => intro h; rwa [List.append_nil]
  | cons x xs ih =>
    intro h
    have := ih (ys ++ [x]) (by
      rw [List.flatMap_append]
      have e : [x].flatMap enc = enc x := by simp
      rw [e]
      exact h.snoc (hM x) (hz x))
    rwa [List.append_assoc] at this
theorem rows_cells (hK : ∀ {w : World} {x cs}, K.K w x cs → cs = enc x) (hs : 0 < K.sz) {w : World} {A : Option Addr} {n : Nat} {l : List α} (h : Kd.C K w A n l) (hn : 0 < n) : ∃ b off, A = some ⟨b, off, none⟩ ∧ ∀ j u, (l.flatMap enc)[j]? = some u → w.cell? ⟨b, off + j, none⟩ = some u := by
  obtain ⟨hl, hm, hc'⟩ := h
  obtain ⟨ad, e, hc⟩ := hc' hn
  clear hc'
  obtain ⟨b, off, sp⟩ := ad
  have hsp : sp = none := by
    cases sp with
    | none => rfl
    | some x =>
      exfalso
      obtain ⟨c, hcs, _, hcell⟩ := hc 0 _ (List.getElem?_eq_getElem (by omega))
      have h0 := hcell 0 _ (List.getElem?_eq_getElem (by omega))
      rw [show (⟨b, off, some x⟩ : Addr).add (0 * K.sz + 0) = ⟨b, off, some x⟩ by simp [Addr.add]] at h0
      simp [World.cell?] at h0
      split at h0 <;> cases h0
  subst hsp
  refine ⟨b, off, e, ?_⟩
  intro j u hj
  have hz : ∀ x ∈ l, (enc x).length = K.sz := fun x hx => by
    obtain ⟨i, hi, rfl⟩ := List.getElem_of_mem hx
    obtain ⟨c, hcs, hr, _⟩ := hc i _ (List.getElem?_eq_getElem hi)
    rw [← hK hr]; exact hcs
  clear hm hn e hl
  induction l generalizing off j with
  | nil => simp at hj
  | cons x l ih =>
    rw [List.flatMap_cons] at hj
    by_cases hj' : j < K.sz
    · rw [List.getElem?_append_left (by rw [hz x (by simp)]; exact hj')] at hj
      obtain ⟨c, hcs, hr, hcell⟩ := hc 0 x rfl
      have := hcell j u (by rw [hK hr]; exact hj)
      rwa [Nat.zero_mul, Nat.zero_add, Addr.add_lit] at this
    · rw [List.getElem?_append_right (by rw [hz x (by simp)]; omega), hz x (by simp)] at hj
      have := ih (off := off + K.sz) (j := j - K.sz) (fun i p hp => by
        obtain ⟨c, hcs, hr, hcell⟩ := hc (i + 1) p (by simpa using hp)
        refine ⟨c, hcs, hr, fun q v hv => ?_⟩
        have := hcell q v hv
        rw [Addr.add_lit] at this ⊢
        rw [show off + K.sz + (i * K.sz + q) = off + ((i + 1) * K.sz + q) by rw [Nat.succ_mul]; omega]
        exact this) hj (fun y hy => hz y (by simp [hy]))
      rwa [show off + K.sz + (j - K.sz) = off + j by omega] at this
theorem R_of_rows (hM : ∀ (w : World) base ok x, K.M w base ok x (enc x)) (hz : ∀ x, (enc x).length = K.sz) (hs : 0 < K.sz) {w : World} {e base n : Nat} {v : Value} {l : List α} (h : w.ownsRow base e K.sz v n (l.flatMap enc)) : Kd.R K e w base (fun _ => True) v l := by
  have hr := reps_enc (R := K.M w base (fun k => True ∧ some k ≠ v.ownBlock)) (hM _ _ _) hz l
  have hl : l.length = n := by
    have h1 := h.1
    rw [hr.1] at h1
    exact Nat.eq_of_mul_eq_mul_right hs h1
  exact ⟨fun _ _ => trivial, _, by rw [hl]; exact h, hr⟩
end
theorem k71_sz (x : S71) : (ncs x).length = k71.sz := rfl
theorem ncs_one (l : List S71) : ∀ u ∈ l.flatMap ncs, u.oneCell' = true := by
  intro u hu
  rw [List.mem_flatMap] at hu
  obtain ⟨x, _, hx⟩ := hu
  simp only [ncs, List.mem_cons, List.not_mem_nil, or_false] at hx
  rcases hx with rfl | rfl | rfl | rfl | rfl | rfl | rfl <;> rfl
abbrev ic (n : Int) : List Value := [.int .i64 n]
theorem ic_one (l : List Int) : ∀ u ∈ l.flatMap ic, u.oneCell' = true := by
  intro u hu
  rw [List.mem_flatMap] at hu
  obtain ⟨x, _, hx⟩ := hu
  simp only [List.mem_cons, List.not_mem_nil, or_false] at hx
  subst hx; rfl
theorem info71 : (Tryz.prog.info? 71).map (fun i => (i.zero, i.size, i.bytes)) = some (some (.agg #[.int .i64 0, .int .i64 0, .int .i64 0, .int .i64 0, .int .i64 0, .int .i64 0, .int .i64 0]), 7, 56) := by kernel_rfl
theorem info3 : (Tryz.prog.info? 3).map (fun i => (i.zero, i.size, i.bytes)) = some (some (.int .i64 0), 1, 8) := by kernel_rfl
set_option maxRecDepth 100000 in
set_option maxHeartbeats 1000000 in
theorem cloneN_empty (A : Option Addr) (c : Nat) (w : World) : Calls Tryz.prog 67 #[.slice A 0 c] w fun e w' => ∃ v, e = .returned v ∧ w'.ownsRow w.heap.size 71 7 v 0 [] ∧ Below w.heap.size w w' := by
  cases A with
  | none =>
    refine (AnyE.slices_Clone_nil Tryz.laysCloneN 0 c w).mono ?_
    rintro e w' ⟨rfl, rfl⟩
    exact ⟨_, rfl, World.ownsRow_nil _ _ _ _, Below.refl _ _⟩
  | some ad =>
    obtain ⟨i0, hi, hz0, hz1, hz2⟩ := info_parts info71
    have q22 : ∀ (w : World) (a : Option Addr) (n c n' c' : Nat), (binOp .eql 22 (.slice a n c) (.slice none n' c')).run Tryz.prog w = .ok (.bool a.isNone) w := fun w a n c n' c' => Lib.run_eql_slice_nil w _ _ a n c n' c' Tryz.underlying22
    go_enter Tryz.func67, Tryz.ntmps67
    go_wp2_with (at_builtin; refine wpList_append_own _ rfl _ _ 22 rfl w.heap.size 71 i0 (.agg #[.int .i64 0, .int .i64 0, .int .i64 0, .int .i64 0, .int .i64 0, .int .i64 0, .int .i64 0]) 7 56 Tryz.underlying22 hi hz0 hz1 hz2 rfl (by decide) _ _ _ rfl (World.ownsRow_made w #[] 0 (Nat.le_refl _) (Nat.zero_le _) (by simp)) ad 0 c [] rfl (by rfl) (fun j u hj => by simp at hj) (fun u hu => by cases hu) (by simp) (by simp) (by simp) ?_)
    intro v' w1 hown hgrow hnil
    go_wp2
    go_ret
    exact ⟨v', rfl, by simpa using hown, ((Below.refl _ w).alloc (Nat.le_refl _) _).grown hgrow (by simp) (by intro k hk; simp [Value.ownBlock] at hk; omega)⟩
set_option maxRecDepth 100000 in
set_option maxHeartbeats 1000000 in
theorem cloneI_empty (A : Option Addr) (c : Nat) (w : World) : Calls Tryz.prog 68 #[.slice A 0 c] w fun e w' => ∃ v, e = .returned v ∧ w'.ownsRow w.heap.size 3 1 v 0 [] ∧ Below w.heap.size w w' := by
  cases A with
  | none =>
    refine (AnyE.slices_Clone_nil Tryz.laysCloneI 0 c w).mono ?_
    rintro e w' ⟨rfl, rfl⟩
    exact ⟨_, rfl, World.ownsRow_nil _ _ _ _, Below.refl _ _⟩
  | some ad =>
    obtain ⟨i0, hi, hz0, hz1, hz2⟩ := info_parts info3
    have q22 : ∀ (w : World) (a : Option Addr) (n c n' c' : Nat), (binOp .eql 23 (.slice a n c) (.slice none n' c')).run Tryz.prog w = .ok (.bool a.isNone) w := fun w a n c n' c' => Lib.run_eql_slice_nil w _ _ a n c n' c' Tryz.underlying23
    go_enter Tryz.func68, Tryz.ntmps68
    go_wp2_with (at_builtin; refine wpList_append_own _ rfl _ _ 23 rfl w.heap.size 3 i0 (.int .i64 0) 1 8 Tryz.underlying23 hi hz0 hz1 hz2 rfl (by decide) _ _ _ rfl (World.ownsRow_made w #[] 0 (Nat.le_refl _) (Nat.zero_le _) (by simp)) ad 0 c [] rfl (by rfl) (fun j u hj => by simp at hj) (fun u hu => by cases hu) (by simp) (by simp) (by simp) ?_)
    intro v' w1 hown hgrow hnil
    go_wp2
    go_ret
    exact ⟨v', rfl, by simpa using hown, ((Below.refl _ w).alloc (Nat.le_refl _) _).grown hgrow (by simp) (by intro k hk; simp [Value.ownBlock] at hk; omega)⟩
theorem k71_M (w : World) (base : Nat) (ok : Nat → Prop) (x : S71) : k71.M w base ok x (ncs x) := k71_mkM w base ok x
theorem kint_M (w : World) (base : Nat) (ok : Nat → Prop) (x : Int) : (Kd.int .i64).M w base ok x (ic x) := rfl
theorem cloneN (A : Option Addr) (c : Nat) (l : List S71) (w : World) (hlen : l.length ≤ 1000000000) (hr : Kd.C k71 w A l.length l) :
    Calls Tryz.prog 67 #[.slice A l.length c] w fun e w' => ∃ v, e = .returned v ∧ Kd.R k71 71 w' w.heap.size (fun _ => True) v l ∧ Below w.heap.size w w' := by
  by_cases h0 : l.length = 0
  · have := cloneN_empty A c w
    rw [List.length_eq_zero_iff.1 h0]
    refine this.mono ?_
    rintro e w' ⟨v, rfl, ho, hb⟩
    exact ⟨v, rfl, R_of_rows (enc := ncs) k71_M k71_sz (by decide) (n := 0) ho, hb⟩
  · obtain ⟨b, off, rfl, hcells⟩ := rows_cells (enc := ncs) (fun h => k71_open h) (by decide) hr (by omega)
    obtain ⟨i0, hi, hz0, hz1, hz2⟩ := info_parts info71
    have zof : ∀ w, (Go.sizeOf 71).run Tryz.prog w = .ok 7 w := fun w => by first | exact Tryz.sizeOf71 w | (simp [Go.sizeOf, hi, hz1])
    refine (AnyE.slices_Clone Tryz.laysCloneN i0 (.agg #[.int .i64 0, .int .i64 0, .int .i64 0, .int .i64 0, .int .i64 0, .int .i64 0, .int .i64 0]) 7 56 hi hz0 hz1 hz2 rfl (by decide) zof b off l.length c (l.flatMap ncs) w ((reps_enc (R := fun _ _ => True) (fun _ => trivial) k71_sz l).1) (by simp only [maxLen]; omega) (by omega) hcells (ncs_one l)).mono ?_
    rintro e w' ⟨v, rfl, ho, _, hb⟩
    exact ⟨v, rfl, R_of_rows (enc := ncs) k71_M k71_sz (by decide) ho, hb⟩
theorem cloneI (A : Option Addr) (c : Nat) (l : List Int) (w : World) (hlen : l.length ≤ 1000000000) (hr : Kd.C (Kd.int .i64) w A l.length l) :
    Calls Tryz.prog 68 #[.slice A l.length c] w fun e w' => ∃ v, e = .returned v ∧ Kd.R (Kd.int .i64) 3 w' w.heap.size (fun _ => True) v l ∧ Below w.heap.size w w' := by
  by_cases h0 : l.length = 0
  · have := cloneI_empty A c w
    rw [List.length_eq_zero_iff.1 h0]
    refine this.mono ?_
    rintro e w' ⟨v, rfl, ho, hb⟩
    exact ⟨v, rfl, R_of_rows (K := Kd.int .i64) (enc := ic) kint_M (fun _ => rfl) (by decide) (n := 0) ho, hb⟩
  · obtain ⟨b, off, rfl, hcells⟩ := rows_cells (K := Kd.int .i64) (enc := ic) (fun h => h) (by decide) hr (by omega)
    obtain ⟨i0, hi, hz0, hz1, hz2⟩ := info_parts info3
    have zof : ∀ w, (Go.sizeOf 3).run Tryz.prog w = .ok 1 w := fun w => by first | exact Tryz.sizeOf3 w | (simp [Go.sizeOf, hi, hz1])
    refine (AnyE.slices_Clone Tryz.laysCloneI i0 (.int .i64 0) 1 8 hi hz0 hz1 hz2 rfl (by decide) zof b off l.length c (l.flatMap ic) w ((reps_enc (enc := ic) (z := 1) (R := fun _ _ => True) (fun _ => trivial) (fun _ => rfl) l).1) (by simp only [maxLen]; omega) (by omega) hcells (ic_one l)).mono ?_
    rintro e w' ⟨v, rfl, ho, _, hb⟩
    exact ⟨v, rfl, R_of_rows (K := Kd.int .i64) (enc := ic) kint_M (fun _ => rfl) (by decide) ho, hb⟩
end Go.Proofs.YtofklpphalalhaaGreatDoor
