/- A text of this claim, cut to what the claim uses. Conditions: each theorem's own. -/
import Derived.Test.YtofklpphalalhaaGreatDoorUpJ1
import Derived.Test.YtofklpphalalhaaGreatDoorUpPAllx9
import Derived.Test.YtofklpphalalhaaGreatDoorUpPAllx10
import Derived.Test.YtofklpphalalhaaGreatDoorUpJ3
-- Written by a program out of the translation, for several roots at once (set All). Not trusted: Lean checks it.
namespace Go.Proofs.YtofklpphalalhaaGreatDoor.PAll
open Go.RowKit Go.Proofs.YtofklpphalalhaaGreatDoorW.PrintWords Go.Proofs.YtofklpphalalhaaGreatDoorW.PrintLast Go.Proofs.YtofklpphalalhaaGreatDoorW.PrintMore
attribute [local go_sem] min2_int min_two
set_option linter.unusedVariables false
set_option linter.unusedSimpArgs false
/-! ### entrepotref22_Put: function 28 -/
def entrepotref22_Put.l0 : Nat → ByteArray → Int → ByteArray → Int → Int → Int → Int → Int → List (S128) → List Int → Option (ByteArray)
  | 0, _, _, _, _, _, _, _, _, _, _ => none
  | k + 1, x3, x4, x248000, x248001, x248002, x248003, x248004, x248005, x248006, x248007 => if x4 < (x248006.length : Int) then (if 0 ≤ x4 then ((entrepotref22_ints.f k (([(rd_T128 x248006 x4).f0, (rd_T128 x248006 x4).f1, (rd_T128 x248006 x4).f2, (rd_T128 x248006 x4).f3, (rd_T128 x248006 x4).f4, (rd_T128 x248006 x4).f5, (rd_T128 x248006 x4).f6] : List Int))).bind fun t259 => (if x3.size + t259.size ≤ 9223372036854775807 then (entrepotref22_Put.l0 k (x3 ++ t259) (wrap64 (x4 + 1)) x248000 x248001 x248002 x248003 x248004 x248005 x248006 x248007) else (none))) else (none)) else ((entrepotref21_PutUint.f k (x248007.length : Int)).bind fun t260 => (if x3.size + t260.size ≤ 9223372036854775807 then ((entrepotref22_ints.f k x248007).bind fun t261 => (if (x3 ++ t260).size + t261.size ≤ 9223372036854775807 then ((entrepotref21_Seal.f k ((x3 ++ t260) ++ t261)).bind fun t262 => (some t262)) else (none))) else (none)))
def entrepotref22_Put.f (k : Nat) (a0_0 : ByteArray) (a0_1 : Int) (a0_2 : Int) (a0_3 : Int) (a0_4 : Int) (a0_5 : Int) (l0_6 : List (S128)) (l0_7 : List Int) : Option (ByteArray) := (entrepotref21_PutText.f k a0_0).bind fun t248 => (if 4 + t248.size ≤ 9223372036854775807 then ((entrepotref22_ints.f k (([a0_1, a0_2, a0_3, a0_4, a0_5] : List Int))).bind fun t252 => (if ((⟨#[69, 80, 84, 1]⟩ : ByteArray) ++ t248).size + t252.size ≤ 9223372036854775807 then ((entrepotref21_PutUint.f k (l0_6.length : Int)).bind fun t253 => (if (((⟨#[69, 80, 84, 1]⟩ : ByteArray) ++ t248) ++ t252).size + t253.size ≤ 9223372036854775807 then (entrepotref22_Put.l0 k ((((⟨#[69, 80, 84, 1]⟩ : ByteArray) ++ t248) ++ t252) ++ t253) 0 a0_0 a0_1 a0_2 a0_3 a0_4 a0_5 l0_6 l0_7) else (none))) else (none))) else (none))
def entrepotref22_Put.T1 : Bool × List (List Nat × List Nat) := (true, [([], []), ([0], [0]), ([1], [1]), ([2], [2]), ([], []), ([4], [4]), ([], []), ([6], [6]), ([], []), ([8], [8]), ([], []), ([10], [10]), ([], []), ([12], [12]), ([5, 7, 9, 11, 13], [5, 7, 9, 11, 13]), ([14, 2], [14]), ([3, 15], [3, 15]), ([], []), ([17], [17]), ([18], [18]), ([19, 15], [19]), ([16, 20], [16, 20]), ([21, 20, 0, 1, 2, 3, 4, 5, 6, 7, 8, 9, 10, 11, 12, 13, 14, 15, 16, 17, 18, 19, 20, 21], [21])])
def entrepotref22_Put.B1 : List Nat := [0, 1, 3, 7, 0, 16, 0, 64, 0, 256, 0, 1024, 0, 4096, 16368, 32759, 65535, 0, 131072, 393216, 983031, 2097151, 4194303]
theorem entrepotref22_Put.tab1 : rtab .any (opsOf Tryz.f28 1) = entrepotref22_Put.T1 := by kernel_rfl
theorem entrepotref22_Put.bits1 : waitsOk entrepotref22_Put.T1.2 entrepotref22_Put.B1 = true := by kernel_rfl
def entrepotref22_Put.T7 : Bool × List (List Nat × List Nat) := (true, [([], []), ([], []), ([1], [1]), ([2], [2]), ([3], [3]), ([0, 4], [0, 4]), ([], []), ([6], [6]), ([7, 4], [7]), ([5, 8], [5, 8]), ([9, 8], [9]), ([10, 10, 0, 1, 2, 3, 4, 5, 6, 7, 8, 9, 10], [10])])
def entrepotref22_Put.B7 : List Nat := [0, 0, 2, 6, 14, 31, 0, 64, 222, 511, 1023, 2047]
theorem entrepotref22_Put.tab7 : rtab .any (opsOf Tryz.f28 7) = entrepotref22_Put.T7 := by kernel_rfl
theorem entrepotref22_Put.bits7 : waitsOk entrepotref22_Put.T7.2 entrepotref22_Put.B7 = true := by kernel_rfl
set_option maxHeartbeats 8000000 in
set_option maxRecDepth 100000 in
theorem entrepotref22_Put.calls (k : Nat) (a0_0 : ByteArray) (a0_1 : Int) (a0_2 : Int) (a0_3 : Int) (a0_4 : Int) (a0_5 : Int) (A0_6 : Option Addr) (c0_6 : Nat) (l0_6 : List (S128)) (A0_7 : Option Addr) (c0_7 : Nat) (l0_7 : List Int) (r : ByteArray) (w : World) (hr0_6 : Kd.C k128 w A0_6 l0_6.length l0_6) (hc0_6 : l0_6.length ≤ c0_6) (hr0_7 : Kd.C (Kd.int .i64) w A0_7 l0_7.length l0_7) (hc0_7 : l0_7.length ≤ c0_7) (h : entrepotref22_Put.f k a0_0 a0_1 a0_2 a0_3 a0_4 a0_5 l0_6 l0_7 = some r) :
    Calls Tryz.prog 28 #[.agg #[.string a0_0, .int .i64 a0_1, .int .i64 a0_2, .int .i64 a0_3, .int .i64 a0_4, .int .i64 a0_5, .slice A0_6 l0_6.length c0_6, .slice A0_7 l0_7.length c0_7]] w fun e w' => e = .returned (.string r) ∧ Below w.heap.size w w' := by
  have hu51 := Tryz.underlying51
  have hu128 := Tryz.underlying128
  have HR0_6 := Aside0.mk hr0_6
  have HC0_6 := Aside0.mk hc0_6
  clear hr0_6 hc0_6
  have HR0_7 := Aside0.mk hr0_7
  have HC0_7 := Aside0.mk hc0_7
  clear hr0_7 hc0_7
  have HB := Aside0.mk (Below.refl w.heap.size w)
  have H : ((entrepotref21_PutText.f k a0_0).bind fun t248 => (if 4 + t248.size ≤ 9223372036854775807 then ((entrepotref22_ints.f k (([a0_1, a0_2, a0_3, a0_4, a0_5] : List Int))).bind fun t252 => (if ((⟨#[69, 80, 84, 1]⟩ : ByteArray) ++ t248).size + t252.size ≤ 9223372036854775807 then ((entrepotref21_PutUint.f k (l0_6.length : Int)).bind fun t253 => (if (((⟨#[69, 80, 84, 1]⟩ : ByteArray) ++ t248) ++ t252).size + t253.size ≤ 9223372036854775807 then (entrepotref22_Put.l0 k ((((⟨#[69, 80, 84, 1]⟩ : ByteArray) ++ t248) ++ t252) ++ t253) 0 a0_0 a0_1 a0_2 a0_3 a0_4 a0_5 l0_6 l0_7) else (none))) else (none))) else (none))) = some r := h
  clear h
  replace H := Option.bind_eq_some_iff.mp H
  obtain ⟨t248, A20, H⟩ := H
  replace H : (if 4 + t248.size ≤ 9223372036854775807 then ((entrepotref22_ints.f k (([a0_1, a0_2, a0_3, a0_4, a0_5] : List Int))).bind fun t252 => (if ((⟨#[69, 80, 84, 1]⟩ : ByteArray) ++ t248).size + t252.size ≤ 9223372036854775807 then ((entrepotref21_PutUint.f k (l0_6.length : Int)).bind fun t253 => (if (((⟨#[69, 80, 84, 1]⟩ : ByteArray) ++ t248) ++ t252).size + t253.size ≤ 9223372036854775807 then (entrepotref22_Put.l0 k ((((⟨#[69, 80, 84, 1]⟩ : ByteArray) ++ t248) ++ t252) ++ t253) 0 a0_0 a0_1 a0_2 a0_3 a0_4 a0_5 l0_6 l0_7) else (none))) else (none))) else (none)) = some r := H
  have A2 := Aside0.mk A20
  clear A20
  by_cases c3 : 4 + t248.size ≤ 9223372036854775807
  · rw [if_pos c3] at H
    have c3b0 := eq_true c3
    have c3b1 : decide (4 + t248.size ≤ 9223372036854775807) = true := decide_eq_true c3
    try have c3b2 : (9223372036854775807 < 4 + t248.size) = False := eq_false (Nat.not_lt.2 c3)
    obtain ⟨y249, hy249⟩ : ∃ y_ : List Int, y_ = (([a0_1, a0_2, a0_3, a0_4, a0_5] : List Int)) := ⟨_, rfl⟩
    replace H : ((entrepotref22_ints.f k y249).bind fun t252 => (if ((⟨#[69, 80, 84, 1]⟩ : ByteArray) ++ t248).size + t252.size ≤ 9223372036854775807 then ((entrepotref21_PutUint.f k (l0_6.length : Int)).bind fun t253 => (if (((⟨#[69, 80, 84, 1]⟩ : ByteArray) ++ t248) ++ t252).size + t253.size ≤ 9223372036854775807 then (entrepotref22_Put.l0 k ((((⟨#[69, 80, 84, 1]⟩ : ByteArray) ++ t248) ++ t252) ++ t253) 0 a0_0 a0_1 a0_2 a0_3 a0_4 a0_5 l0_6 l0_7) else (none))) else (none))) = some r := by first | (rw [hy249]; with_reducible exact H) | (have H2_ := (Option.bind_some _ _).symm.trans H; rw [hy249]; with_reducible exact H2_) | (have H2_ := (Option.bind_some _ _).symm.trans H; with_reducible exact H2_) | with_reducible exact H | (rw [hy249]; exact H) | exact H
    have Ny249 := Aside0.mk hy249
    clear hy249
    replace H := Option.bind_eq_some_iff.mp H
    obtain ⟨t252, A40, H⟩ := H
    replace H : (if ((⟨#[69, 80, 84, 1]⟩ : ByteArray) ++ t248).size + t252.size ≤ 9223372036854775807 then ((entrepotref21_PutUint.f k (l0_6.length : Int)).bind fun t253 => (if (((⟨#[69, 80, 84, 1]⟩ : ByteArray) ++ t248) ++ t252).size + t253.size ≤ 9223372036854775807 then (entrepotref22_Put.l0 k ((((⟨#[69, 80, 84, 1]⟩ : ByteArray) ++ t248) ++ t252) ++ t253) 0 a0_0 a0_1 a0_2 a0_3 a0_4 a0_5 l0_6 l0_7) else (none))) else (none)) = some r := H
    have A4 := Aside0.mk A40
    clear A40
    by_cases c5 : ((⟨#[69, 80, 84, 1]⟩ : ByteArray) ++ t248).size + t252.size ≤ 9223372036854775807
    · rw [if_pos c5] at H
      have c5b0 := eq_true c5
      have c5b1 : decide (((⟨#[69, 80, 84, 1]⟩ : ByteArray) ++ t248).size + t252.size ≤ 9223372036854775807) = true := decide_eq_true c5
      try have c5b2 : (9223372036854775807 < ((⟨#[69, 80, 84, 1]⟩ : ByteArray) ++ t248).size + t252.size) = False := eq_false (Nat.not_lt.2 c5)
      try have c5b4 : (9223372036854775807 < 4 + t248.size + t252.size) = False := eq_false (by have h_ := c5; simp only [ByteArray.size_append] at h_; have e0_ : (⟨#[69, 80, 84, 1]⟩ : ByteArray).size = 4 := rfl; omega)
      replace H := Option.bind_eq_some_iff.mp H
      obtain ⟨t253, A60, H⟩ := H
      replace H : (if (((⟨#[69, 80, 84, 1]⟩ : ByteArray) ++ t248) ++ t252).size + t253.size ≤ 9223372036854775807 then (entrepotref22_Put.l0 k ((((⟨#[69, 80, 84, 1]⟩ : ByteArray) ++ t248) ++ t252) ++ t253) 0 a0_0 a0_1 a0_2 a0_3 a0_4 a0_5 l0_6 l0_7) else (none)) = some r := H
      have A6 := Aside0.mk A60
      clear A60
      by_cases c7 : (((⟨#[69, 80, 84, 1]⟩ : ByteArray) ++ t248) ++ t252).size + t253.size ≤ 9223372036854775807
      · rw [if_pos c7] at H
        have c7b0 := eq_true c7
        have c7b1 : decide ((((⟨#[69, 80, 84, 1]⟩ : ByteArray) ++ t248) ++ t252).size + t253.size ≤ 9223372036854775807) = true := decide_eq_true c7
        try have c7b2 : (9223372036854775807 < (((⟨#[69, 80, 84, 1]⟩ : ByteArray) ++ t248) ++ t252).size + t253.size) = False := eq_false (Nat.not_lt.2 c7)
        try have c7b4 : (9223372036854775807 < 4 + t248.size + t252.size + t253.size) = False := eq_false (by have h_ := c7; simp only [ByteArray.size_append] at h_; have e0_ : (⟨#[69, 80, 84, 1]⟩ : ByteArray).size = 4 := rfl; omega)
        have H' := Aside0.mk H
        clear H
        go_enter Tryz.func28, Tryz.ntmps28
        try go_wp2_with (first | ((with_reducible refine gate_dst (N := 1) rfl ?_); refine box_event ?hg (N := 1) ?hd (cs := #[.string a0_0, .int .i64 a0_1, .int .i64 a0_2, .int .i64 a0_3, .int .i64 a0_4, .int .i64 a0_5, .slice A0_6 l0_6.length c0_6, .slice A0_7 l0_7.length c0_7]) (t := 51) ?hr ?_; (case hd => rfl); (case hg => rfl); (case hr => first | (go_simp; done) | (go_simp; rfl)); intro gb247 hg w8 hbox hb; have n0_ := Aside0.mk (below_step (by repeat (first | (with_reducible first | exact HB.out | apply below_alloc | apply pw_below_drewN | apply below_drew1) | exact HB.out)) hb); have n1_ := Aside0.mk (hbox); have n2_ := Aside0.mk ((by rw [hg]; exact (below_size (by repeat (first | (with_reducible first | exact HB.out | apply below_alloc | apply pw_below_drewN | apply below_drew1) | exact HB.out))) : w.heap.size ≤ gb247)); have n3_ := Aside0.mk ((by rw [hg]; exact (below_size (by repeat (first | (with_reducible first | exact HB.out | apply below_alloc | apply pw_below_drewN | apply below_drew1) | exact HB.out))) : w.heap.size ≤ gb247)); clear HB; have HB := n0_; have BK247 := n1_; have GW247 := n2_; have GE247 := n3_; clear n0_ n1_ n2_ n3_; clear hb hbox hg))
        have n0_ := Aside0.mk (blk_drew BK247.out)
        have n1_ := Aside0.mk (below_drew1 HB.out)
        clear BK247
        clear HB
        have BK247 := n0_
        have HB := n1_
        clear n0_ n1_
        refine start_ (n := 23) (S := fun w' => True) (ds := []) #[false, false, false, false, false, false, false, false, false, false, false, false, false, false, false, false, false, false, false, false, false, false, false] (by kernel_rfl) rfl rfl trivial (fun hHeld => ?_); refine with_tabW entrepotref22_Put.tab1 entrepotref22_Put.bits1 (fun HT_ HW_ => ?_)
        generalize w8.drew = w9 at BK247 HB hHeld ⊢
        refine pure_ (i := 0) (N := some 6) (v := ?_) (a' := ?_) #[true, false, false, false, false, false, false, false, false, false, false, false, false, false, false, false, false, false, false, false, false, false, false] rfl rfl (any_of HT_.out (by kernel_rfl)) (fun _ _ _ h => h) (Or.inl ⟨by rfl, ?_⟩) ?_ ?_
        rotate_left
        · intro w'
          go_simp
          with_reducible rfl
        rotate_left
        · simp only [Act.put, List.setIfInBounds_toArray, List.set_cons_zero, List.set_cons_succ, i64_w, i32_w]
          rfl
        refine pure_ (i := 4) (N := some 10) (v := ?_) (a' := ?_) #[true, false, false, false, true, false, false, false, false, false, false, false, false, false, false, false, false, false, false, false, false, false, false] rfl rfl (any_of HT_.out (by kernel_rfl)) (fun _ _ _ h => h) (Or.inl ⟨by rfl, ?_⟩) ?_ ?_
        rotate_left
        · intro w'
          go_simp
          with_reducible rfl
        rotate_left
        · simp only [Act.put, List.setIfInBounds_toArray, List.set_cons_zero, List.set_cons_succ, i64_w, i32_w]
          rfl
        refine pure_ (i := 6) (N := some 12) (v := ?_) (a' := ?_) #[true, false, false, false, true, false, true, false, false, false, false, false, false, false, false, false, false, false, false, false, false, false, false] rfl rfl (any_of HT_.out (by kernel_rfl)) (fun _ _ _ h => h) (Or.inl ⟨by rfl, ?_⟩) ?_ ?_
        rotate_left
        · intro w'
          go_simp
          with_reducible rfl
        rotate_left
        · simp only [Act.put, List.setIfInBounds_toArray, List.set_cons_zero, List.set_cons_succ, i64_w, i32_w]
          rfl
        refine pure_ (i := 8) (N := some 14) (v := ?_) (a' := ?_) #[true, false, false, false, true, false, true, false, true, false, false, false, false, false, false, false, false, false, false, false, false, false, false] rfl rfl (any_of HT_.out (by kernel_rfl)) (fun _ _ _ h => h) (Or.inl ⟨by rfl, ?_⟩) ?_ ?_
        rotate_left
        · intro w'
          go_simp
          with_reducible rfl
        rotate_left
        · simp only [Act.put, List.setIfInBounds_toArray, List.set_cons_zero, List.set_cons_succ, i64_w, i32_w]
          rfl
        refine pure_ (i := 10) (N := some 16) (v := ?_) (a' := ?_) #[true, false, false, false, true, false, true, false, true, false, true, false, false, false, false, false, false, false, false, false, false, false, false] rfl rfl (any_of HT_.out (by kernel_rfl)) (fun _ _ _ h => h) (Or.inl ⟨by rfl, ?_⟩) ?_ ?_
        rotate_left
        · intro w'
          go_simp
          with_reducible rfl
        rotate_left
        · simp only [Act.put, List.setIfInBounds_toArray, List.set_cons_zero, List.set_cons_succ, i64_w, i32_w]
          rfl
        refine pure_ (i := 12) (N := some 18) (v := ?_) (a' := ?_) #[true, false, false, false, true, false, true, false, true, false, true, false, true, false, false, false, false, false, false, false, false, false, false] rfl rfl (any_of HT_.out (by kernel_rfl)) (fun _ _ _ h => h) (Or.inl ⟨by rfl, ?_⟩) ?_ ?_
        rotate_left
        · intro w'
          go_simp
          with_reducible rfl
        rotate_left
        · simp only [Act.put, List.setIfInBounds_toArray, List.set_cons_zero, List.set_cons_succ, i64_w, i32_w]
          rfl
        refine pure_ (i := 17) (N := some 23) (v := ?_) (a' := ?_) #[true, false, false, false, true, false, true, false, true, false, true, false, true, false, false, false, false, true, false, false, false, false, false] rfl rfl (any_of HT_.out (by kernel_rfl)) (fun _ _ _ h => h) (Or.inl ⟨by rfl, ?_⟩) ?_ ?_
        rotate_left
        · intro w'
          go_simp
          with_reducible rfl
        rotate_left
        · simp only [Act.put, List.setIfInBounds_toArray, List.set_cons_zero, List.set_cons_succ, i64_w, i32_w]
          rfl
        refine inv_at [1, 2, 3, 5, 7, 9, 11, 13, 14, 15, 16, 18, 19, 20, 21, 22] (fun a0_ b a w' => ∃ (v250 : Value), a = putSel a0_ b [(1, 7, .string a0_0), (2, 8, .string t248), (3, 9, .string ((⟨#[69, 80, 84, 1]⟩ : ByteArray) ++ t248)), (5, 11, .int .i64 a0_1), (7, 13, .int .i64 a0_2), (9, 15, .int .i64 a0_3), (11, 17, .int .i64 a0_4), (13, 19, .int .i64 a0_5), (14, 20, v250), (15, 21, .string t252), (16, 22, .string (((⟨#[69, 80, 84, 1]⟩ : ByteArray) ++ t248) ++ t252)), (18, 24, .slice A0_6 l0_6.length c0_6), (19, 25, .int .i64 (l0_6.length : Int)), (20, 26, .string t253), (21, 27, .string ((((⟨#[69, 80, 84, 1]⟩ : ByteArray) ++ t248) ++ t252) ++ t253)), (22, 3, .string ((((⟨#[69, 80, 84, 1]⟩ : ByteArray) ++ t248) ++ t252) ++ t253))] ∧ (w'.heap[gb247]? = some (.cells #[.string a0_0, .int .i64 a0_1, .int .i64 a0_2, .int .i64 a0_3, .int .i64 a0_4, .int .i64 a0_5, .slice A0_6 l0_6.length c0_6, .slice A0_7 l0_7.length c0_7] 51 (0, 0))) ∧ (Below w.heap.size w w') ∧ (b 14 = true → Kd.R (Kd.int .i64) 3 w' w.heap.size (fun _ => True) v250 y249)) HT_.out HW_.out (by kernel_rfl) (by kernel_rfl) ?_ ?_ ?_
        · exact ⟨.bool false, by simp only [putSel, Bool.false_eq_true, if_false], BK247.out, HB.out, fun h_ => absurd h_ (by decide)⟩
        · skip
          clear BK247 HB
          refine steps_cons ?_ ?_
          · rintro b a w' ⟨v250, ha, Q_BK247, Q_HB, Q_HO251⟩ hb_ hon hoff
            refine ⟨_, rfl, fun K hK => ?_⟩
            have e6 : a.tmps[6]? = some (.pointer (some ⟨gb247, 0, none⟩)) := by rw [ha]; exact (putSel_off rfl).trans rfl
            replace ha := Aside0.mk ha
            have BK247 := Aside0.mk Q_BK247
            have HB := Aside0.mk Q_HB
            have hc0_ : w'.cell? ⟨gb247, 0, none⟩ = some (.string a0_0) := (blk_cell BK247.out 0).trans rfl
            have hc1_ : w'.cell? ⟨gb247, 1, none⟩ = some (.int .i64 a0_1) := (blk_cell BK247.out 1).trans rfl
            have hc2_ : w'.cell? ⟨gb247, 2, none⟩ = some (.int .i64 a0_2) := (blk_cell BK247.out 2).trans rfl
            have hc3_ : w'.cell? ⟨gb247, 3, none⟩ = some (.int .i64 a0_3) := (blk_cell BK247.out 3).trans rfl
            have hc4_ : w'.cell? ⟨gb247, 4, none⟩ = some (.int .i64 a0_4) := (blk_cell BK247.out 4).trans rfl
            have hc5_ : w'.cell? ⟨gb247, 5, none⟩ = some (.int .i64 a0_5) := (blk_cell BK247.out 5).trans rfl
            have hc6_ : w'.cell? ⟨gb247, 6, none⟩ = some (.slice A0_6 l0_6.length c0_6) := (blk_cell BK247.out 6).trans rfl
            have hc7_ : w'.cell? ⟨gb247, 7, none⟩ = some (.slice A0_7 l0_7.length c0_7) := (blk_cell BK247.out 7).trans rfl
            refine value_ (w1 := w') (v := .string a0_0) (by rfl) rfl ?_ ?_
            · go_simp
              (try simp only [i64_w])
              try rfl
            refine hK.out _ _ ⟨v250, (by rw [ha.out]; exact putSel_upk 0 hb_ rfl rfl rfl), Q_BK247, Q_HB, Q_HO251⟩
          refine steps_cons ?_ ?_
          · rintro b a w' ⟨v250, ha, Q_BK247, Q_HB, Q_HO251⟩ hb_ hon hoff
            refine ⟨_, rfl, fun K hK => ?_⟩
            have e7 : a.tmps[7]? = some (.string a0_0) := by rw [ha]; exact putSel_on (e := (1, 7, .string a0_0)) 0 rfl rfl (hon 1 (by kernel_rfl)) rfl
            replace ha := Aside0.mk ha
            have BK247 := Aside0.mk Q_BK247
            have HB := Aside0.mk Q_HB
            refine goes_ Tryz.func80 (by kernel_rfl) rfl #[.string a0_0] (by rfl) rfl rfl (by first | (simp only [List.map_toArray, List.map_cons, List.map_nil, Act.eval, Array.getD_eq_getD_getElem?, Option.getD_some, e7]; done) | (simp only [List.map_toArray, List.map_cons, List.map_nil, Act.eval, Array.getD_eq_getD_getElem?, Option.getD_some, e7]; rfl)) ?_
            with_reducible refine (entrepotref21_PutText.calls k a0_0 t248 _ A2.out).mono ?_
            rintro e w10 ⟨rfl, hb⟩
            refine ⟨_, rfl, ?_⟩
            have n0_ := Aside0.mk (blk_below (g := gb247) (o := .cells #[.string a0_0, .int .i64 a0_1, .int .i64 a0_2, .int .i64 a0_3, .int .i64 a0_4, .int .i64 a0_5, .slice A0_6 l0_6.length c0_6, .slice A0_7 l0_7.length c0_7] 51 (0, 0)) (by (with_reducible repeat (first | refine blk_drewN ?_ _ | refine blk_drew ?_ | refine blk_alloc ?_ _)); exact BK247.out) hb)
            have n1_ := Aside0.mk (below_step (by repeat (first | (with_reducible first | exact HB.out | apply below_alloc | apply pw_below_drewN | apply below_drew1 | refine below_set ?_ GE247.out) | exact HB.out)) hb)
            have z_HO251 := fun (h0_ : b 14 = true) => (show Kd.R (Kd.int .i64) 3 w10 w.heap.size (fun _ => True) v250 y249 from by first | exact (Kd.R_below (by (with_reducible repeat (first | apply Kd.R_alloc | apply Kd.R_drewN | apply Kd.R_drew)); exact (Q_HO251 h0_)) hb) | exact Kd.R_mono (Kd.R_below (by (with_reducible repeat (first | apply Kd.R_alloc | apply Kd.R_drewN | apply Kd.R_drew)); exact (Q_HO251 h0_)) hb) (fun _ h_ => by first | trivial | exact h_ | exact h_.1))
            clear BK247
            clear HB
            have BK247 := n0_
            have HB := n1_
            clear n0_ n1_
            (try clear hb)
            (try clear hb2)
            (try clear hk)
            (try clear hi)
            refine hK.out _ _ ⟨v250, (by rw [ha.out]; exact putSel_upk 1 hb_ rfl rfl rfl), (by (with_reducible repeat (first | refine blk_drewN ?_ _ | refine blk_drew ?_ | refine blk_alloc ?_ _)); exact BK247.out), (by repeat (first | (with_reducible first | exact HB.out | apply below_alloc | apply pw_below_drewN | apply below_drew1 | refine below_set ?_ GE247.out) | exact HB.out)), z_HO251⟩
          refine steps_cons ?_ ?_
          · rintro b a w' ⟨v250, ha, Q_BK247, Q_HB, Q_HO251⟩ hb_ hon hoff
            refine ⟨_, rfl, fun K hK => ?_⟩
            have e8 : a.tmps[8]? = some (.string t248) := by rw [ha]; exact putSel_on (e := (2, 8, .string t248)) 1 rfl rfl (hon 2 (by kernel_rfl)) rfl
            replace ha := Aside0.mk ha
            have BK247 := Aside0.mk Q_BK247
            have HB := Aside0.mk Q_HB
            refine value_ (w1 := w') (v := .string ((⟨#[69, 80, 84, 1]⟩ : ByteArray) ++ t248)) (by rfl) rfl ?_ ?_
            · go_simp
              (try simp only [i64_w])
              try rfl
            refine hK.out _ _ ⟨v250, (by rw [ha.out]; exact putSel_upk 2 hb_ rfl rfl rfl), Q_BK247, Q_HB, Q_HO251⟩
          refine steps_cons ?_ ?_
          · rintro b a w' ⟨v250, ha, Q_BK247, Q_HB, Q_HO251⟩ hb_ hon hoff
            refine ⟨_, rfl, fun K hK => ?_⟩
            have e10 : a.tmps[10]? = some (.pointer (some ⟨gb247, 1, none⟩)) := by rw [ha]; exact (putSel_off rfl).trans rfl
            replace ha := Aside0.mk ha
            have BK247 := Aside0.mk Q_BK247
            have HB := Aside0.mk Q_HB
            have hc0_ : w'.cell? ⟨gb247, 0, none⟩ = some (.string a0_0) := (blk_cell BK247.out 0).trans rfl
            have hc1_ : w'.cell? ⟨gb247, 1, none⟩ = some (.int .i64 a0_1) := (blk_cell BK247.out 1).trans rfl
            have hc2_ : w'.cell? ⟨gb247, 2, none⟩ = some (.int .i64 a0_2) := (blk_cell BK247.out 2).trans rfl
            have hc3_ : w'.cell? ⟨gb247, 3, none⟩ = some (.int .i64 a0_3) := (blk_cell BK247.out 3).trans rfl
            have hc4_ : w'.cell? ⟨gb247, 4, none⟩ = some (.int .i64 a0_4) := (blk_cell BK247.out 4).trans rfl
            have hc5_ : w'.cell? ⟨gb247, 5, none⟩ = some (.int .i64 a0_5) := (blk_cell BK247.out 5).trans rfl
            have hc6_ : w'.cell? ⟨gb247, 6, none⟩ = some (.slice A0_6 l0_6.length c0_6) := (blk_cell BK247.out 6).trans rfl
            have hc7_ : w'.cell? ⟨gb247, 7, none⟩ = some (.slice A0_7 l0_7.length c0_7) := (blk_cell BK247.out 7).trans rfl
            refine value_ (w1 := w') (v := .int .i64 a0_1) (by rfl) rfl ?_ ?_
            · go_simp
              (try simp only [i64_w])
              try rfl
            refine hK.out _ _ ⟨v250, (by rw [ha.out]; exact putSel_upk 3 hb_ rfl rfl rfl), Q_BK247, Q_HB, fun h0_ => absurd ((hoff 14 (by kernel_rfl)).symm.trans h0_) (by decide)⟩
          refine steps_cons ?_ ?_
          · rintro b a w' ⟨v250, ha, Q_BK247, Q_HB, Q_HO251⟩ hb_ hon hoff
            refine ⟨_, rfl, fun K hK => ?_⟩
            have e12 : a.tmps[12]? = some (.pointer (some ⟨gb247, 2, none⟩)) := by rw [ha]; exact (putSel_off rfl).trans rfl
            replace ha := Aside0.mk ha
            have BK247 := Aside0.mk Q_BK247
            have HB := Aside0.mk Q_HB
            have hc0_ : w'.cell? ⟨gb247, 0, none⟩ = some (.string a0_0) := (blk_cell BK247.out 0).trans rfl
            have hc1_ : w'.cell? ⟨gb247, 1, none⟩ = some (.int .i64 a0_1) := (blk_cell BK247.out 1).trans rfl
            have hc2_ : w'.cell? ⟨gb247, 2, none⟩ = some (.int .i64 a0_2) := (blk_cell BK247.out 2).trans rfl
            have hc3_ : w'.cell? ⟨gb247, 3, none⟩ = some (.int .i64 a0_3) := (blk_cell BK247.out 3).trans rfl
            have hc4_ : w'.cell? ⟨gb247, 4, none⟩ = some (.int .i64 a0_4) := (blk_cell BK247.out 4).trans rfl
            have hc5_ : w'.cell? ⟨gb247, 5, none⟩ = some (.int .i64 a0_5) := (blk_cell BK247.out 5).trans rfl
            have hc6_ : w'.cell? ⟨gb247, 6, none⟩ = some (.slice A0_6 l0_6.length c0_6) := (blk_cell BK247.out 6).trans rfl
            have hc7_ : w'.cell? ⟨gb247, 7, none⟩ = some (.slice A0_7 l0_7.length c0_7) := (blk_cell BK247.out 7).trans rfl
            refine value_ (w1 := w') (v := .int .i64 a0_2) (by rfl) rfl ?_ ?_
            · go_simp
              (try simp only [i64_w])
              try rfl
            refine hK.out _ _ ⟨v250, (by rw [ha.out]; exact putSel_upk 4 hb_ rfl rfl rfl), Q_BK247, Q_HB, fun h0_ => absurd ((hoff 14 (by kernel_rfl)).symm.trans h0_) (by decide)⟩
          refine steps_cons ?_ ?_
          · rintro b a w' ⟨v250, ha, Q_BK247, Q_HB, Q_HO251⟩ hb_ hon hoff
            refine ⟨_, rfl, fun K hK => ?_⟩
            have e14 : a.tmps[14]? = some (.pointer (some ⟨gb247, 3, none⟩)) := by rw [ha]; exact (putSel_off rfl).trans rfl
            replace ha := Aside0.mk ha
            have BK247 := Aside0.mk Q_BK247
            have HB := Aside0.mk Q_HB
            have hc0_ : w'.cell? ⟨gb247, 0, none⟩ = some (.string a0_0) := (blk_cell BK247.out 0).trans rfl
            have hc1_ : w'.cell? ⟨gb247, 1, none⟩ = some (.int .i64 a0_1) := (blk_cell BK247.out 1).trans rfl
            have hc2_ : w'.cell? ⟨gb247, 2, none⟩ = some (.int .i64 a0_2) := (blk_cell BK247.out 2).trans rfl
            have hc3_ : w'.cell? ⟨gb247, 3, none⟩ = some (.int .i64 a0_3) := (blk_cell BK247.out 3).trans rfl
            have hc4_ : w'.cell? ⟨gb247, 4, none⟩ = some (.int .i64 a0_4) := (blk_cell BK247.out 4).trans rfl
            have hc5_ : w'.cell? ⟨gb247, 5, none⟩ = some (.int .i64 a0_5) := (blk_cell BK247.out 5).trans rfl
            have hc6_ : w'.cell? ⟨gb247, 6, none⟩ = some (.slice A0_6 l0_6.length c0_6) := (blk_cell BK247.out 6).trans rfl
            have hc7_ : w'.cell? ⟨gb247, 7, none⟩ = some (.slice A0_7 l0_7.length c0_7) := (blk_cell BK247.out 7).trans rfl
            refine value_ (w1 := w') (v := .int .i64 a0_3) (by rfl) rfl ?_ ?_
            · go_simp
              (try simp only [i64_w])
              try rfl
            refine hK.out _ _ ⟨v250, (by rw [ha.out]; exact putSel_upk 5 hb_ rfl rfl rfl), Q_BK247, Q_HB, fun h0_ => absurd ((hoff 14 (by kernel_rfl)).symm.trans h0_) (by decide)⟩
          refine steps_cons ?_ ?_
          · rintro b a w' ⟨v250, ha, Q_BK247, Q_HB, Q_HO251⟩ hb_ hon hoff
            refine ⟨_, rfl, fun K hK => ?_⟩
            have e16 : a.tmps[16]? = some (.pointer (some ⟨gb247, 4, none⟩)) := by rw [ha]; exact (putSel_off rfl).trans rfl
            replace ha := Aside0.mk ha
            have BK247 := Aside0.mk Q_BK247
            have HB := Aside0.mk Q_HB
            have hc0_ : w'.cell? ⟨gb247, 0, none⟩ = some (.string a0_0) := (blk_cell BK247.out 0).trans rfl
            have hc1_ : w'.cell? ⟨gb247, 1, none⟩ = some (.int .i64 a0_1) := (blk_cell BK247.out 1).trans rfl
            have hc2_ : w'.cell? ⟨gb247, 2, none⟩ = some (.int .i64 a0_2) := (blk_cell BK247.out 2).trans rfl
            have hc3_ : w'.cell? ⟨gb247, 3, none⟩ = some (.int .i64 a0_3) := (blk_cell BK247.out 3).trans rfl
            have hc4_ : w'.cell? ⟨gb247, 4, none⟩ = some (.int .i64 a0_4) := (blk_cell BK247.out 4).trans rfl
            have hc5_ : w'.cell? ⟨gb247, 5, none⟩ = some (.int .i64 a0_5) := (blk_cell BK247.out 5).trans rfl
            have hc6_ : w'.cell? ⟨gb247, 6, none⟩ = some (.slice A0_6 l0_6.length c0_6) := (blk_cell BK247.out 6).trans rfl
            have hc7_ : w'.cell? ⟨gb247, 7, none⟩ = some (.slice A0_7 l0_7.length c0_7) := (blk_cell BK247.out 7).trans rfl
            refine value_ (w1 := w') (v := .int .i64 a0_4) (by rfl) rfl ?_ ?_
            · go_simp
              (try simp only [i64_w])
              try rfl
            refine hK.out _ _ ⟨v250, (by rw [ha.out]; exact putSel_upk 6 hb_ rfl rfl rfl), Q_BK247, Q_HB, fun h0_ => absurd ((hoff 14 (by kernel_rfl)).symm.trans h0_) (by decide)⟩
          refine steps_cons ?_ ?_
          · rintro b a w' ⟨v250, ha, Q_BK247, Q_HB, Q_HO251⟩ hb_ hon hoff
            refine ⟨_, rfl, fun K hK => ?_⟩
            have e18 : a.tmps[18]? = some (.pointer (some ⟨gb247, 5, none⟩)) := by rw [ha]; exact (putSel_off rfl).trans rfl
            replace ha := Aside0.mk ha
            have BK247 := Aside0.mk Q_BK247
            have HB := Aside0.mk Q_HB
            have hc0_ : w'.cell? ⟨gb247, 0, none⟩ = some (.string a0_0) := (blk_cell BK247.out 0).trans rfl
            have hc1_ : w'.cell? ⟨gb247, 1, none⟩ = some (.int .i64 a0_1) := (blk_cell BK247.out 1).trans rfl
            have hc2_ : w'.cell? ⟨gb247, 2, none⟩ = some (.int .i64 a0_2) := (blk_cell BK247.out 2).trans rfl
            have hc3_ : w'.cell? ⟨gb247, 3, none⟩ = some (.int .i64 a0_3) := (blk_cell BK247.out 3).trans rfl
            have hc4_ : w'.cell? ⟨gb247, 4, none⟩ = some (.int .i64 a0_4) := (blk_cell BK247.out 4).trans rfl
            have hc5_ : w'.cell? ⟨gb247, 5, none⟩ = some (.int .i64 a0_5) := (blk_cell BK247.out 5).trans rfl
            have hc6_ : w'.cell? ⟨gb247, 6, none⟩ = some (.slice A0_6 l0_6.length c0_6) := (blk_cell BK247.out 6).trans rfl
            have hc7_ : w'.cell? ⟨gb247, 7, none⟩ = some (.slice A0_7 l0_7.length c0_7) := (blk_cell BK247.out 7).trans rfl
            refine value_ (w1 := w') (v := .int .i64 a0_5) (by rfl) rfl ?_ ?_
            · go_simp
              (try simp only [i64_w])
              try rfl
            refine hK.out _ _ ⟨v250, (by rw [ha.out]; exact putSel_upk 7 hb_ rfl rfl rfl), Q_BK247, Q_HB, fun h0_ => absurd ((hoff 14 (by kernel_rfl)).symm.trans h0_) (by decide)⟩
          refine steps_cons ?_ ?_
          · rintro b a w' ⟨v250, ha, Q_BK247, Q_HB, Q_HO251⟩ hb_ hon hoff
            refine ⟨_, rfl, fun K hK => ?_⟩
            have e11 : a.tmps[11]? = some (.int .i64 a0_1) := by rw [ha]; exact putSel_on (e := (5, 11, .int .i64 a0_1)) 3 rfl rfl (hon 5 (by kernel_rfl)) rfl
            have e13 : a.tmps[13]? = some (.int .i64 a0_2) := by rw [ha]; exact putSel_on (e := (7, 13, .int .i64 a0_2)) 4 rfl rfl (hon 7 (by kernel_rfl)) rfl
            have e15 : a.tmps[15]? = some (.int .i64 a0_3) := by rw [ha]; exact putSel_on (e := (9, 15, .int .i64 a0_3)) 5 rfl rfl (hon 9 (by kernel_rfl)) rfl
            have e17 : a.tmps[17]? = some (.int .i64 a0_4) := by rw [ha]; exact putSel_on (e := (11, 17, .int .i64 a0_4)) 6 rfl rfl (hon 11 (by kernel_rfl)) rfl
            have e19 : a.tmps[19]? = some (.int .i64 a0_5) := by rw [ha]; exact putSel_on (e := (13, 19, .int .i64 a0_5)) 7 rfl rfl (hon 13 (by kernel_rfl)) rfl
            replace ha := Aside0.mk ha
            have BK247 := Aside0.mk Q_BK247
            have HB := Aside0.mk Q_HB
            refine Kd.R_lit_step (Kd.int .i64) _ 3 ?hg (N := 20) ?hd (xs := ([a0_1, a0_2, a0_3, a0_4, a0_5] : List Int)) (inner := [.int .i64 a0_1, .int .i64 a0_2, .int .i64 a0_3, .int .i64 a0_4, .int .i64 a0_5]) (ok := fun _ => True) (okp := fun _ => True) ?hr ?hp (fun _ hk => hk) trivial (Below.refl _ _) (Nat.le_refl _) (by simp) ?_; (case hd => rfl); (case hg => rfl); (case hr => first | (go_simp; done) | (go_simp; rfl)); (case hp => exact (Reps.one (show Kd.M (Kd.int .i64) _ _ _ a0_1 [.int .i64 a0_1] from rfl) (Reps.one (show Kd.M (Kd.int .i64) _ _ _ a0_2 [.int .i64 a0_2] from rfl) (Reps.one (show Kd.M (Kd.int .i64) _ _ _ a0_3 [.int .i64 a0_3] from rfl) (Reps.one (show Kd.M (Kd.int .i64) _ _ _ a0_4 [.int .i64 a0_4] from rfl) (Reps.one (show Kd.M (Kd.int .i64) _ _ _ a0_5 [.int .i64 a0_5] from rfl) (Reps.none _ _)))))))
            intro v250 w10 ho11 hb hg_ hnew_
            clear hg_ hnew_
            (first | rw [← Ny249.out] at ho11 | (simp only [Int.reduceToNat] at ho11; rw [← Ny249.out] at ho11))
            have n0_ := Aside0.mk (Kd.R_lower ho11 (below_size (by repeat (first | (with_reducible first | exact HB.out | apply below_alloc | apply pw_below_drewN | apply below_drew1 | refine below_set ?_ GE247.out) | exact HB.out))))
            have n1_ := Aside0.mk (blk_below (g := gb247) (o := .cells #[.string a0_0, .int .i64 a0_1, .int .i64 a0_2, .int .i64 a0_3, .int .i64 a0_4, .int .i64 a0_5, .slice A0_6 l0_6.length c0_6, .slice A0_7 l0_7.length c0_7] 51 (0, 0)) (by (with_reducible repeat (first | refine blk_drewN ?_ _ | refine blk_drew ?_ | refine blk_alloc ?_ _)); exact BK247.out) hb)
            have n2_ := Aside0.mk (below_step (by repeat (first | (with_reducible first | exact HB.out | apply below_alloc | apply pw_below_drewN | apply below_drew1 | refine below_set ?_ GE247.out) | exact HB.out)) hb)
            clear BK247
            clear HB
            have HO251 := n0_
            have BK247 := n1_
            have HB := n2_
            clear n0_ n1_ n2_
            clear hb ho11
            refine hK.out _ _ ⟨v250, (by rw [ha.out]; exact putSel_upk 8 hb_ rfl rfl rfl), (by (with_reducible repeat (first | refine blk_drewN ?_ _ | refine blk_drew ?_ | refine blk_alloc ?_ _)); exact BK247.out), (by repeat (first | (with_reducible first | exact HB.out | apply below_alloc | apply pw_below_drewN | apply below_drew1 | refine below_set ?_ GE247.out) | exact HB.out)), fun _ => (by (with_reducible repeat (first | apply Kd.R_alloc | apply Kd.R_drewN | apply Kd.R_drew)); exact HO251.out)⟩
          refine steps_cons ?_ ?_
          · rintro b a w' ⟨v250, ha, Q_BK247, Q_HB, Q_HO251⟩ hb_ hon hoff
            refine ⟨_, rfl, fun K hK => ?_⟩
            have e20 : a.tmps[20]? = some (v250) := by rw [ha]; exact putSel_on (e := (14, 20, v250)) 8 rfl rfl (hon 14 (by kernel_rfl)) rfl
            replace ha := Aside0.mk ha
            have BK247 := Aside0.mk Q_BK247
            have HB := Aside0.mk Q_HB
            have HO251 := Aside0.mk (Q_HO251 (hon 14 (by kernel_rfl)))
            obtain ⟨Ao14, co14, eo14⟩ := Kd.R_slice HO251.out
            (first | subst eo14 | (injection eo14 with f1_ f2_ f3_; have f4_ := f1_.symm; have f5_ := f3_.symm; clear f1_ f2_ f3_; subst f4_; subst f5_))
            refine goes_ Tryz.func81 (by kernel_rfl) rfl #[.slice Ao14 y249.length co14] (by rfl) rfl rfl (by first | (simp only [List.map_toArray, List.map_cons, List.map_nil, Act.eval, Array.getD_eq_getD_getElem?, Option.getD_some, e20]; done) | (simp only [List.map_toArray, List.map_cons, List.map_nil, Act.eval, Array.getD_eq_getD_getElem?, Option.getD_some, e20]; rfl)) ?_
            with_reducible refine (entrepotref22_ints.calls k _ _ y249 t252 _ ?side1 ?side2 A4.out).mono ?_
            (case side1 => repeat (first | exact (Kd.R_reads' HO251.out).2.2 | (with_reducible refine Kd.C_alloc ?_ _) | (with_reducible refine Kd.C_drewN ?_ _) | (with_reducible refine Kd.C_drew ?_)))
            (case side2 => exact (Kd.R_reads' HO251.out).2.1)
            rintro e w15 ⟨rfl, hb⟩
            refine ⟨_, rfl, ?_⟩
            have n0_ := Aside0.mk (Kd.R_below (by (with_reducible repeat (first | apply Kd.R_alloc | apply Kd.R_drewN | apply Kd.R_drew)); exact HO251.out) hb)
            have n1_ := Aside0.mk (blk_below (g := gb247) (o := .cells #[.string a0_0, .int .i64 a0_1, .int .i64 a0_2, .int .i64 a0_3, .int .i64 a0_4, .int .i64 a0_5, .slice A0_6 l0_6.length c0_6, .slice A0_7 l0_7.length c0_7] 51 (0, 0)) (by (with_reducible repeat (first | refine blk_drewN ?_ _ | refine blk_drew ?_ | refine blk_alloc ?_ _)); exact BK247.out) hb)
            have n2_ := Aside0.mk (below_step (by repeat (first | (with_reducible first | exact HB.out | apply below_alloc | apply pw_below_drewN | apply below_drew1 | refine below_set ?_ GE247.out) | exact HB.out)) hb)
            clear HO251
            clear BK247
            clear HB
            have HO251 := n0_
            have BK247 := n1_
            have HB := n2_
            clear n0_ n1_ n2_
            (try clear hb)
            (try clear hb2)
            (try clear hk)
            (try clear hi)
            refine hK.out _ _ ⟨.slice Ao14 y249.length co14, (by rw [ha.out]; exact putSel_upk 9 hb_ rfl rfl rfl), (by (with_reducible repeat (first | refine blk_drewN ?_ _ | refine blk_drew ?_ | refine blk_alloc ?_ _)); exact BK247.out), (by repeat (first | (with_reducible first | exact HB.out | apply below_alloc | apply pw_below_drewN | apply below_drew1 | refine below_set ?_ GE247.out) | exact HB.out)), fun _ => (by (with_reducible repeat (first | apply Kd.R_alloc | apply Kd.R_drewN | apply Kd.R_drew)); exact HO251.out)⟩
          refine steps_cons ?_ ?_
          · rintro b a w' ⟨v250, ha, Q_BK247, Q_HB, Q_HO251⟩ hb_ hon hoff
            refine ⟨_, rfl, fun K hK => ?_⟩
            have e9 : a.tmps[9]? = some (.string ((⟨#[69, 80, 84, 1]⟩ : ByteArray) ++ t248)) := by rw [ha]; exact putSel_on (e := (3, 9, .string ((⟨#[69, 80, 84, 1]⟩ : ByteArray) ++ t248))) 2 rfl rfl (hon 3 (by kernel_rfl)) rfl
            have e21 : a.tmps[21]? = some (.string t252) := by rw [ha]; exact putSel_on (e := (15, 21, .string t252)) 9 rfl rfl (hon 15 (by kernel_rfl)) rfl
            replace ha := Aside0.mk ha
            have BK247 := Aside0.mk Q_BK247
            have HB := Aside0.mk Q_HB
            have HO251 := Aside0.mk (Q_HO251 (hon 14 (by kernel_rfl)))
            refine value_ (w1 := w') (v := .string (((⟨#[69, 80, 84, 1]⟩ : ByteArray) ++ t248) ++ t252)) (by rfl) rfl ?_ ?_
            · go_simp
              (try simp only [i64_w])
              try rfl
            refine hK.out _ _ ⟨v250, (by rw [ha.out]; exact putSel_upk 10 hb_ rfl rfl rfl), Q_BK247, Q_HB, Q_HO251⟩
          refine steps_cons ?_ ?_
          · rintro b a w' ⟨v250, ha, Q_BK247, Q_HB, Q_HO251⟩ hb_ hon hoff
            refine ⟨_, rfl, fun K hK => ?_⟩
            have e23 : a.tmps[23]? = some (.pointer (some ⟨gb247, 6, none⟩)) := by rw [ha]; exact (putSel_off rfl).trans rfl
            replace ha := Aside0.mk ha
            have BK247 := Aside0.mk Q_BK247
            have HB := Aside0.mk Q_HB
            have hc0_ : w'.cell? ⟨gb247, 0, none⟩ = some (.string a0_0) := (blk_cell BK247.out 0).trans rfl
            have hc1_ : w'.cell? ⟨gb247, 1, none⟩ = some (.int .i64 a0_1) := (blk_cell BK247.out 1).trans rfl
            have hc2_ : w'.cell? ⟨gb247, 2, none⟩ = some (.int .i64 a0_2) := (blk_cell BK247.out 2).trans rfl
            have hc3_ : w'.cell? ⟨gb247, 3, none⟩ = some (.int .i64 a0_3) := (blk_cell BK247.out 3).trans rfl
            have hc4_ : w'.cell? ⟨gb247, 4, none⟩ = some (.int .i64 a0_4) := (blk_cell BK247.out 4).trans rfl
            have hc5_ : w'.cell? ⟨gb247, 5, none⟩ = some (.int .i64 a0_5) := (blk_cell BK247.out 5).trans rfl
            have hc6_ : w'.cell? ⟨gb247, 6, none⟩ = some (.slice A0_6 l0_6.length c0_6) := (blk_cell BK247.out 6).trans rfl
            have hc7_ : w'.cell? ⟨gb247, 7, none⟩ = some (.slice A0_7 l0_7.length c0_7) := (blk_cell BK247.out 7).trans rfl
            refine value_ (w1 := w') (v := .slice A0_6 l0_6.length c0_6) (by rfl) rfl ?_ ?_
            · go_simp
              (try simp only [i64_w])
              try rfl
            refine hK.out _ _ ⟨v250, (by rw [ha.out]; exact putSel_upk 11 hb_ rfl rfl rfl), Q_BK247, Q_HB, Q_HO251⟩
          refine steps_cons ?_ ?_
          · rintro b a w' ⟨v250, ha, Q_BK247, Q_HB, Q_HO251⟩ hb_ hon hoff
            refine ⟨_, rfl, fun K hK => ?_⟩
            have e24 : a.tmps[24]? = some (.slice A0_6 l0_6.length c0_6) := by rw [ha]; exact putSel_on (e := (18, 24, .slice A0_6 l0_6.length c0_6)) 11 rfl rfl (hon 18 (by kernel_rfl)) rfl
            replace ha := Aside0.mk ha
            have BK247 := Aside0.mk Q_BK247
            have HB := Aside0.mk Q_HB
            refine value_ (w1 := w') (v := .int .i64 (l0_6.length : Int)) (by rfl) rfl ?_ ?_
            · go_simp
              (try simp only [i64_w])
              try rfl
            refine hK.out _ _ ⟨v250, (by rw [ha.out]; exact putSel_upk 12 hb_ rfl rfl rfl), Q_BK247, Q_HB, Q_HO251⟩
          refine steps_cons ?_ ?_
          · rintro b a w' ⟨v250, ha, Q_BK247, Q_HB, Q_HO251⟩ hb_ hon hoff
            refine ⟨_, rfl, fun K hK => ?_⟩
            have e25 : a.tmps[25]? = some (.int .i64 (l0_6.length : Int)) := by rw [ha]; exact putSel_on (e := (19, 25, .int .i64 (l0_6.length : Int))) 12 rfl rfl (hon 19 (by kernel_rfl)) rfl
            replace ha := Aside0.mk ha
            have BK247 := Aside0.mk Q_BK247
            have HB := Aside0.mk Q_HB
            have HO251 := Aside0.mk (Q_HO251 (hon 14 (by kernel_rfl)))
            refine goes_ Tryz.func82 (by kernel_rfl) rfl #[.int .i64 (l0_6.length : Int)] (by rfl) rfl rfl (by first | (simp only [List.map_toArray, List.map_cons, List.map_nil, Act.eval, Array.getD_eq_getD_getElem?, Option.getD_some, e25]; done) | (simp only [List.map_toArray, List.map_cons, List.map_nil, Act.eval, Array.getD_eq_getD_getElem?, Option.getD_some, e25]; rfl)) ?_
            with_reducible refine (entrepotref21_PutUint.calls k (l0_6.length : Int) t253 _ A6.out).mono ?_
            rintro e w16 ⟨rfl, hb⟩
            refine ⟨_, rfl, ?_⟩
            have n0_ := Aside0.mk (Kd.R_below (by (with_reducible repeat (first | apply Kd.R_alloc | apply Kd.R_drewN | apply Kd.R_drew)); exact HO251.out) hb)
            have n1_ := Aside0.mk (blk_below (g := gb247) (o := .cells #[.string a0_0, .int .i64 a0_1, .int .i64 a0_2, .int .i64 a0_3, .int .i64 a0_4, .int .i64 a0_5, .slice A0_6 l0_6.length c0_6, .slice A0_7 l0_7.length c0_7] 51 (0, 0)) (by (with_reducible repeat (first | refine blk_drewN ?_ _ | refine blk_drew ?_ | refine blk_alloc ?_ _)); exact BK247.out) hb)
            have n2_ := Aside0.mk (below_step (by repeat (first | (with_reducible first | exact HB.out | apply below_alloc | apply pw_below_drewN | apply below_drew1 | refine below_set ?_ GE247.out) | exact HB.out)) hb)
            clear HO251
            clear BK247
            clear HB
            have HO251 := n0_
            have BK247 := n1_
            have HB := n2_
            clear n0_ n1_ n2_
            (try clear hb)
            (try clear hb2)
            (try clear hk)
            (try clear hi)
            refine hK.out _ _ ⟨v250, (by rw [ha.out]; exact putSel_upk 13 hb_ rfl rfl rfl), (by (with_reducible repeat (first | refine blk_drewN ?_ _ | refine blk_drew ?_ | refine blk_alloc ?_ _)); exact BK247.out), (by repeat (first | (with_reducible first | exact HB.out | apply below_alloc | apply pw_below_drewN | apply below_drew1 | refine below_set ?_ GE247.out) | exact HB.out)), fun _ => (by (with_reducible repeat (first | apply Kd.R_alloc | apply Kd.R_drewN | apply Kd.R_drew)); exact HO251.out)⟩
          refine steps_cons ?_ ?_
          · rintro b a w' ⟨v250, ha, Q_BK247, Q_HB, Q_HO251⟩ hb_ hon hoff
            refine ⟨_, rfl, fun K hK => ?_⟩
            have e22 : a.tmps[22]? = some (.string (((⟨#[69, 80, 84, 1]⟩ : ByteArray) ++ t248) ++ t252)) := by rw [ha]; exact putSel_on (e := (16, 22, .string (((⟨#[69, 80, 84, 1]⟩ : ByteArray) ++ t248) ++ t252))) 10 rfl rfl (hon 16 (by kernel_rfl)) rfl
            have e26 : a.tmps[26]? = some (.string t253) := by rw [ha]; exact putSel_on (e := (20, 26, .string t253)) 13 rfl rfl (hon 20 (by kernel_rfl)) rfl
            replace ha := Aside0.mk ha
            have BK247 := Aside0.mk Q_BK247
            have HB := Aside0.mk Q_HB
            have HO251 := Aside0.mk (Q_HO251 (hon 14 (by kernel_rfl)))
            refine value_ (w1 := w') (v := .string ((((⟨#[69, 80, 84, 1]⟩ : ByteArray) ++ t248) ++ t252) ++ t253)) (by rfl) rfl ?_ ?_
            · go_simp
              (try simp only [i64_w])
              try rfl
            refine hK.out _ _ ⟨v250, (by rw [ha.out]; exact putSel_upk 14 hb_ rfl rfl rfl), Q_BK247, Q_HB, Q_HO251⟩
          refine steps_cons ?_ ?_
          · rintro b a w' ⟨v250, ha, Q_BK247, Q_HB, Q_HO251⟩ hb_ hon hoff
            refine ⟨_, rfl, fun K hK => ?_⟩
            have e27 : a.tmps[27]? = some (.string ((((⟨#[69, 80, 84, 1]⟩ : ByteArray) ++ t248) ++ t252) ++ t253)) := by rw [ha]; exact putSel_on (e := (21, 27, .string ((((⟨#[69, 80, 84, 1]⟩ : ByteArray) ++ t248) ++ t252) ++ t253))) 14 rfl rfl (hon 21 (by kernel_rfl)) rfl
            replace ha := Aside0.mk ha
            have BK247 := Aside0.mk Q_BK247
            have HB := Aside0.mk Q_HB
            have HO251 := Aside0.mk (Q_HO251 (hon 14 (by kernel_rfl)))
            refine value_ (w1 := w') (v := .string ((((⟨#[69, 80, 84, 1]⟩ : ByteArray) ++ t248) ++ t252) ++ t253)) (by rfl) rfl ?_ ?_
            · go_simp
              (try simp only [i64_w])
              try rfl
            refine hK.out _ _ ⟨v250, (by rw [ha.out]; exact putSel_upk 15 hb_ rfl rfl rfl), Q_BK247, Q_HB, Q_HO251⟩
          exact steps_nil
        rintro b a w16 hall ⟨v250, ha, Q_BK247, Q_HB, Q_HO251⟩
        clear BK247 HB
        have hb1_ := hall 1 (by kernel_rfl)
        have hb2_ := hall 2 (by kernel_rfl)
        have hb3_ := hall 3 (by kernel_rfl)
        have hb5_ := hall 5 (by kernel_rfl)
        have hb7_ := hall 7 (by kernel_rfl)
        have hb9_ := hall 9 (by kernel_rfl)
        have hb11_ := hall 11 (by kernel_rfl)
        have hb13_ := hall 13 (by kernel_rfl)
        have hb14_ := hall 14 (by kernel_rfl)
        have hb15_ := hall 15 (by kernel_rfl)
        have hb16_ := hall 16 (by kernel_rfl)
        have hb18_ := hall 18 (by kernel_rfl)
        have hb19_ := hall 19 (by kernel_rfl)
        have hb20_ := hall 20 (by kernel_rfl)
        have hb21_ := hall 21 (by kernel_rfl)
        have hb22_ := hall 22 (by kernel_rfl)
        subst ha
        simp only [putSel, hb1_, hb2_, hb3_, hb5_, hb7_, hb9_, hb11_, hb13_, hb14_, hb15_, hb16_, hb18_, hb19_, hb20_, hb21_, hb22_, if_true, Act.put, List.setIfInBounds_toArray, List.set_cons_zero, List.set_cons_succ]
        have BK247 := Aside0.mk Q_BK247
        clear Q_BK247
        have HB := Aside0.mk Q_HB
        clear Q_HB
        have HO251 := Aside0.mk (Q_HO251 hb14_)
        clear Q_HO251
        clear hall hb1_ hb2_ hb3_ hb5_ hb7_ hb9_ hb11_ hb13_ hb14_ hb15_ hb16_ hb18_ hb19_ hb20_ hb21_ hb22_
        try go_wp2
        go_loopg [3, 4] k (fun kq v3 v4 w' => ∃ (x3_1 : ByteArray) (x4_1 : Int), v3 = .string x3_1 ∧ v4 = .int .i64 x4_1 ∧ Aside0 (entrepotref22_Put.l0 kq x3_1 x4_1 a0_0 a0_1 a0_2 a0_3 a0_4 a0_5 l0_6 l0_7 = some r) ∧ Aside0 (kq ≤ k) ∧ Aside0 (w'.heap[gb247]? = some (.cells #[.string a0_0, .int .i64 a0_1, .int .i64 a0_2, .int .i64 a0_3, .int .i64 a0_4, .int .i64 a0_5, (.slice A0_6 l0_6.length c0_6), (.slice A0_7 l0_7.length c0_7)] 51 (0, 0))) ∧ Aside0 (Below w.heap.size w w'))
        case atStart => exact ⟨((((⟨#[69, 80, 84, 1]⟩ : ByteArray) ++ t248) ++ t252) ++ t253), (0), (by first | rfl | (simp; done) | (simp [*]; done)), (by first | rfl | (simp; done) | (simp [*]; done)), H', ⟨Nat.le_refl _⟩, ⟨by (with_reducible repeat (first | refine blk_drewN ?_ _ | refine blk_drew ?_ | refine blk_alloc ?_ _)); exact BK247.out⟩, ⟨by repeat (first | (with_reducible first | exact HB.out | apply below_alloc | apply pw_below_drewN | apply below_drew1 | refine below_set ?_ GE247.out) | exact HB.out)⟩⟩
        case round =>
          clear H'
          try clear c1
          try clear c2
          try clear p2
          try clear c3
          try clear c3b0
          try clear c3b1
          try clear c3b2
          try clear c4
          try clear c5
          try clear c5b0
          try clear c5b1
          try clear c5b2
          try clear c6
          try clear c7
          try clear c7b0
          try clear c7b1
          try clear c7b2
          try clear c8
          obtain ⟨x3_1, x4_1, rfl, rfl, HA, HK1, BK247, HB⟩ := hrel
          cases gk with
          | zero => exact absurd HA.out (by simp [entrepotref22_Put.l0])
          | succ k1 =>
            have H := HA.out
            clear HA
            simp only [entrepotref22_Put.l0] at H
            by_cases c17 : x4_1 < (l0_6.length : Int)
            · rw [if_pos c17] at H
              have c17b0 : decide (x4_1 < (l0_6.length : Int)) = true := decide_eq_true c17
              clear c17
              by_cases c18 : 0 ≤ x4_1
              · rw [if_pos c18] at H
                have c18b0 : decide (0 ≤ x4_1) = true := decide_eq_true c18
                clear c18
                obtain ⟨y256, hy256⟩ : ∃ y_ : List Int, y_ = (([(rd_T128 l0_6 x4_1).f0, (rd_T128 l0_6 x4_1).f1, (rd_T128 l0_6 x4_1).f2, (rd_T128 l0_6 x4_1).f3, (rd_T128 l0_6 x4_1).f4, (rd_T128 l0_6 x4_1).f5, (rd_T128 l0_6 x4_1).f6] : List Int)) := ⟨_, rfl⟩
                replace H : ((entrepotref22_ints.f k1 y256).bind fun t259 => (if x3_1.size + t259.size ≤ 9223372036854775807 then (entrepotref22_Put.l0 k1 (x3_1 ++ t259) (wrap64 (x4_1 + 1)) a0_0 a0_1 a0_2 a0_3 a0_4 a0_5 l0_6 l0_7) else (none))) = some r := by first | (rw [hy256]; with_reducible exact H) | (have H2_ := (Option.bind_some _ _).symm.trans H; rw [hy256]; with_reducible exact H2_) | (have H2_ := (Option.bind_some _ _).symm.trans H; with_reducible exact H2_) | with_reducible exact H | (rw [hy256]; exact H) | exact H
                have Ny256 := Aside0.mk hy256
                clear hy256
                replace H := Option.bind_eq_some_iff.mp H
                obtain ⟨t259, A190, H⟩ := H
                replace H : (if x3_1.size + t259.size ≤ 9223372036854775807 then (entrepotref22_Put.l0 k1 (x3_1 ++ t259) (wrap64 (x4_1 + 1)) a0_0 a0_1 a0_2 a0_3 a0_4 a0_5 l0_6 l0_7) else (none)) = some r := H
                have A19 := Aside0.mk A190
                clear A190
                by_cases c20 : x3_1.size + t259.size ≤ 9223372036854775807
                · rw [if_pos c20] at H
                  have c20b0 := eq_true c20
                  have c20b1 : decide (x3_1.size + t259.size ≤ 9223372036854775807) = true := decide_eq_true c20
                  try have c20b2 : (9223372036854775807 < x3_1.size + t259.size) = False := eq_false (Nat.not_lt.2 c20)
                  have H' := Aside0.mk H
                  clear H
                  have hcz21_0 : wr.cell? ⟨gb247, 0, none⟩ = some (.string a0_0) := (blk_cell BK247.out 0).trans rfl
                  have hcz21_1 : wr.cell? ⟨gb247, 1, none⟩ = some (.int .i64 a0_1) := (blk_cell BK247.out 1).trans rfl
                  have hcz21_2 : wr.cell? ⟨gb247, 2, none⟩ = some (.int .i64 a0_2) := (blk_cell BK247.out 2).trans rfl
                  have hcz21_3 : wr.cell? ⟨gb247, 3, none⟩ = some (.int .i64 a0_3) := (blk_cell BK247.out 3).trans rfl
                  have hcz21_4 : wr.cell? ⟨gb247, 4, none⟩ = some (.int .i64 a0_4) := (blk_cell BK247.out 4).trans rfl
                  have hcz21_5 : wr.cell? ⟨gb247, 5, none⟩ = some (.int .i64 a0_5) := (blk_cell BK247.out 5).trans rfl
                  have hcz21_6 : wr.cell? ⟨gb247, 6, none⟩ = some (.slice A0_6 l0_6.length c0_6) := (blk_cell BK247.out 6).trans rfl
                  have hcz21_7 : wr.cell? ⟨gb247, 7, none⟩ = some (.slice A0_7 l0_7.length c0_7) := (blk_cell BK247.out 7).trans rfl
                  have hfz21_0 := blk_frozen BK247.out 0
                  have hfz21_1 := blk_frozen BK247.out 1
                  have hfz21_2 := blk_frozen BK247.out 2
                  have hfz21_3 := blk_frozen BK247.out 3
                  have hfz21_4 := blk_frozen BK247.out 4
                  have hfz21_5 := blk_frozen BK247.out 5
                  have hfz21_6 := blk_frozen BK247.out 6
                  have hfz21_7 := blk_frozen BK247.out 7
                  have p254 : 0 ≤ (x4_1 : Int) := of_decide_eq_true (by first | (with_reducible assumption) | assumption)
                  have q254 : x4_1 < (l0_6.length : Int) := of_decide_eq_true (by first | (with_reducible assumption) | assumption)
                  obtain ⟨ad254, e254, hx254_0, hx254_1, hx254_2, hx254_3, hx254_4, hx254_5, hx254_6⟩ := at_T128 HR0_6.out x4_1 p254 q254
                  cases e254
                  replace hx254_0 := (HB.out.cell (World.block_lt_of_cell? w _ hx254_0)).trans hx254_0
                  replace hx254_1 := (HB.out.cell (World.block_lt_of_cell? w _ hx254_1)).trans hx254_1
                  replace hx254_2 := (HB.out.cell (World.block_lt_of_cell? w _ hx254_2)).trans hx254_2
                  replace hx254_3 := (HB.out.cell (World.block_lt_of_cell? w _ hx254_3)).trans hx254_3
                  replace hx254_4 := (HB.out.cell (World.block_lt_of_cell? w _ hx254_4)).trans hx254_4
                  replace hx254_5 := (HB.out.cell (World.block_lt_of_cell? w _ hx254_5)).trans hx254_5
                  replace hx254_6 := (HB.out.cell (World.block_lt_of_cell? w _ hx254_6)).trans hx254_6
                  replace p254 := eq_true p254
                  replace q254 := eq_true q254
                  go_wp2_with (first | ((with_reducible refine gate_dst (N := 5) rfl ?_); refine box_event ?hg (N := 5) ?hd (cs := #[.int .i64 0, .int .i64 0, .int .i64 0, .int .i64 0, .int .i64 0, .int .i64 0, .int .i64 0]) (t := 128) ?hr ?_; (case hd => rfl); (case hg => rfl); (case hr => first | (go_simp; done) | (go_simp; rfl)); intro gb255 hg w22 hbox hb; have n0_ := Aside0.mk (blk_below (g := gb247) (o := .cells #[.string a0_0, .int .i64 a0_1, .int .i64 a0_2, .int .i64 a0_3, .int .i64 a0_4, .int .i64 a0_5, .slice (some ad254) l0_6.length c0_6, .slice A0_7 l0_7.length c0_7] 51 (0, 0)) (by (with_reducible repeat (first | refine blk_drewN ?_ _ | refine blk_drew ?_ | refine blk_alloc ?_ _)); exact BK247.out) hb); have n1_ := Aside0.mk (below_step (by repeat (first | (with_reducible first | exact HB.out | apply below_alloc | apply pw_below_drewN | apply below_drew1 | refine below_set ?_ GE247.out) | exact HB.out)) hb); have n2_ := Aside0.mk (hbox); have n3_ := Aside0.mk ((by rw [hg]; exact (below_size (by repeat (first | (with_reducible first | exact HB.out | apply below_alloc | apply pw_below_drewN | apply below_drew1 | refine below_set ?_ GE247.out) | exact HB.out))) : w.heap.size ≤ gb255)); have n4_ := Aside0.mk ((by rw [hg]; exact (below_size (by repeat (first | (with_reducible first | exact HB.out | apply below_alloc | apply pw_below_drewN | apply below_drew1 | refine below_set ?_ GE247.out) | exact HB.out))) : w.heap.size ≤ gb255)); have n5_ := Aside0.mk ((by rw [hg]; exact Nat.ne_of_lt (blk_lt (g := gb247) (o := .cells #[.string a0_0, .int .i64 a0_1, .int .i64 a0_2, .int .i64 a0_3, .int .i64 a0_4, .int .i64 a0_5, .slice (some ad254) l0_6.length c0_6, .slice A0_7 l0_7.length c0_7] 51 (0, 0)) (by (with_reducible repeat (first | refine blk_drewN ?_ _ | refine blk_drew ?_ | refine blk_alloc ?_ _)); exact BK247.out)) : gb247 ≠ gb255)); have n6_ := Aside0.mk ((by rw [hg]; exact Nat.ne_of_gt (blk_lt (g := gb247) (o := .cells #[.string a0_0, .int .i64 a0_1, .int .i64 a0_2, .int .i64 a0_3, .int .i64 a0_4, .int .i64 a0_5, .slice (some ad254) l0_6.length c0_6, .slice A0_7 l0_7.length c0_7] 51 (0, 0)) (by (with_reducible repeat (first | refine blk_drewN ?_ _ | refine blk_drew ?_ | refine blk_alloc ?_ _)); exact BK247.out)) : gb255 ≠ gb247)); clear BK247; clear HB; have BK247 := n0_; have HB := n1_; have BK255 := n2_; have GW255 := n3_; have GE255 := n4_; have NB247_255 := n5_; have NB255_247 := n6_; clear n0_ n1_ n2_ n3_ n4_ n5_ n6_; clear hb hbox hg; have hnb23 := NB255_247.out; have hnc23 := NB247_255.out; have hcz24_0 : w22.cell? ⟨gb255, 0, none⟩ = some (.int .i64 0) := (blk_cell BK255.out 0).trans rfl; have hcz24_1 : w22.cell? ⟨gb255, 1, none⟩ = some (.int .i64 0) := (blk_cell BK255.out 1).trans rfl; have hcz24_2 : w22.cell? ⟨gb255, 2, none⟩ = some (.int .i64 0) := (blk_cell BK255.out 2).trans rfl; have hcz24_3 : w22.cell? ⟨gb255, 3, none⟩ = some (.int .i64 0) := (blk_cell BK255.out 3).trans rfl; have hcz24_4 : w22.cell? ⟨gb255, 4, none⟩ = some (.int .i64 0) := (blk_cell BK255.out 4).trans rfl; have hcz24_5 : w22.cell? ⟨gb255, 5, none⟩ = some (.int .i64 0) := (blk_cell BK255.out 5).trans rfl; have hcz24_6 : w22.cell? ⟨gb255, 6, none⟩ = some (.int .i64 0) := (blk_cell BK255.out 6).trans rfl; have hfz24_0 := blk_frozen BK255.out 0; have hfz24_1 := blk_frozen BK255.out 1; have hfz24_2 := blk_frozen BK255.out 2; have hfz24_3 := blk_frozen BK255.out 3; have hfz24_4 := blk_frozen BK255.out 4; have hfz24_5 := blk_frozen BK255.out 5; have hfz24_6 := blk_frozen BK255.out 6) | ((with_reducible refine gate_dst (N := 55) rfl ?_); refine Kd.R_lit (Kd.int .i64) _ 3 ?hg (N := 55) ?hd (xs := ([(rd_T128 l0_6 x4_1).f0, (rd_T128 l0_6 x4_1).f1, (rd_T128 l0_6 x4_1).f2, (rd_T128 l0_6 x4_1).f3, (rd_T128 l0_6 x4_1).f4, (rd_T128 l0_6 x4_1).f5, (rd_T128 l0_6 x4_1).f6] : List Int)) (inner := [.int .i64 ((rd_T128 l0_6 x4_1).f0), .int .i64 ((rd_T128 l0_6 x4_1).f1), .int .i64 ((rd_T128 l0_6 x4_1).f2), .int .i64 ((rd_T128 l0_6 x4_1).f3), .int .i64 ((rd_T128 l0_6 x4_1).f4), .int .i64 ((rd_T128 l0_6 x4_1).f5), .int .i64 ((rd_T128 l0_6 x4_1).f6)]) (ok := fun _ => True) (okp := fun _ => True) ?hr ?hp (fun _ hk => hk) trivial (Below.refl _ _) (Nat.le_refl _) (by simp) ?_; (case hd => rfl); (case hg => rfl); (case hr => first | (go_simp; done) | (go_simp; rfl)); (case hp => exact (Reps.one (show Kd.M (Kd.int .i64) _ _ _ ((rd_T128 l0_6 x4_1).f0) [.int .i64 ((rd_T128 l0_6 x4_1).f0)] from rfl) (Reps.one (show Kd.M (Kd.int .i64) _ _ _ ((rd_T128 l0_6 x4_1).f1) [.int .i64 ((rd_T128 l0_6 x4_1).f1)] from rfl) (Reps.one (show Kd.M (Kd.int .i64) _ _ _ ((rd_T128 l0_6 x4_1).f2) [.int .i64 ((rd_T128 l0_6 x4_1).f2)] from rfl) (Reps.one (show Kd.M (Kd.int .i64) _ _ _ ((rd_T128 l0_6 x4_1).f3) [.int .i64 ((rd_T128 l0_6 x4_1).f3)] from rfl) (Reps.one (show Kd.M (Kd.int .i64) _ _ _ ((rd_T128 l0_6 x4_1).f4) [.int .i64 ((rd_T128 l0_6 x4_1).f4)] from rfl) (Reps.one (show Kd.M (Kd.int .i64) _ _ _ ((rd_T128 l0_6 x4_1).f5) [.int .i64 ((rd_T128 l0_6 x4_1).f5)] from rfl) (Reps.one (show Kd.M (Kd.int .i64) _ _ _ ((rd_T128 l0_6 x4_1).f6) [.int .i64 ((rd_T128 l0_6 x4_1).f6)] from rfl) (Reps.none _ _))))))))); intro v257 w25 ho26 hb hg_ hnew_; clear hg_ hnew_; (first | rw [← Ny256.out] at ho26 | (simp only [Int.reduceToNat] at ho26; rw [← Ny256.out] at ho26)); have n0_ := Aside0.mk (Kd.R_lower ho26 (below_size (by repeat (first | (with_reducible first | exact HB.out | apply below_alloc | apply pw_below_drewN | apply below_drew1 | refine below_set ?_ GE247.out | refine below_set ?_ GE255.out) | exact HB.out)))); have n1_ := Aside0.mk (blk_below (g := gb247) (o := .cells #[.string a0_0, .int .i64 a0_1, .int .i64 a0_2, .int .i64 a0_3, .int .i64 a0_4, .int .i64 a0_5, .slice (some ad254) l0_6.length c0_6, .slice A0_7 l0_7.length c0_7] 51 (0, 0)) (by (with_reducible repeat (first | refine blk_drewN ?_ _ | refine blk_drew ?_ | refine blk_alloc ?_ _)); refine blk_far ?_ NB247_255.out _; (with_reducible repeat (first | refine blk_drewN ?_ _ | refine blk_drew ?_ | refine blk_alloc ?_ _)); refine blk_far ?_ NB247_255.out _; (with_reducible repeat (first | refine blk_drewN ?_ _ | refine blk_drew ?_ | refine blk_alloc ?_ _)); refine blk_far ?_ NB247_255.out _; (with_reducible repeat (first | refine blk_drewN ?_ _ | refine blk_drew ?_ | refine blk_alloc ?_ _)); refine blk_far ?_ NB247_255.out _; (with_reducible repeat (first | refine blk_drewN ?_ _ | refine blk_drew ?_ | refine blk_alloc ?_ _)); refine blk_far ?_ NB247_255.out _; (with_reducible repeat (first | refine blk_drewN ?_ _ | refine blk_drew ?_ | refine blk_alloc ?_ _)); refine blk_far ?_ NB247_255.out _; (with_reducible repeat (first | refine blk_drewN ?_ _ | refine blk_drew ?_ | refine blk_alloc ?_ _)); refine blk_far ?_ NB247_255.out _; (with_reducible repeat (first | refine blk_drewN ?_ _ | refine blk_drew ?_ | refine blk_alloc ?_ _)); exact BK247.out) hb); have n2_ := Aside0.mk (blk_below (g := gb255) (o := .cells #[.int .i64 ((rd_T128 l0_6 x4_1).f0), .int .i64 ((rd_T128 l0_6 x4_1).f1), .int .i64 ((rd_T128 l0_6 x4_1).f2), .int .i64 ((rd_T128 l0_6 x4_1).f3), .int .i64 ((rd_T128 l0_6 x4_1).f4), .int .i64 ((rd_T128 l0_6 x4_1).f5), .int .i64 ((rd_T128 l0_6 x4_1).f6)] 128 (0, 0)) (by (with_reducible repeat (first | refine blk_drewN ?_ _ | refine blk_drew ?_ | refine blk_alloc ?_ _)); refine blk_put (cs := #[.int .i64 ((rd_T128 l0_6 x4_1).f0), .int .i64 ((rd_T128 l0_6 x4_1).f1), .int .i64 ((rd_T128 l0_6 x4_1).f2), .int .i64 ((rd_T128 l0_6 x4_1).f3), .int .i64 ((rd_T128 l0_6 x4_1).f4), .int .i64 ((rd_T128 l0_6 x4_1).f5), .int .i64 0]) ?_ 6 _ rfl; (with_reducible repeat (first | refine blk_drewN ?_ _ | refine blk_drew ?_ | refine blk_alloc ?_ _)); refine blk_put (cs := #[.int .i64 ((rd_T128 l0_6 x4_1).f0), .int .i64 ((rd_T128 l0_6 x4_1).f1), .int .i64 ((rd_T128 l0_6 x4_1).f2), .int .i64 ((rd_T128 l0_6 x4_1).f3), .int .i64 ((rd_T128 l0_6 x4_1).f4), .int .i64 0, .int .i64 0]) ?_ 5 _ rfl; (with_reducible repeat (first | refine blk_drewN ?_ _ | refine blk_drew ?_ | refine blk_alloc ?_ _)); refine blk_put (cs := #[.int .i64 ((rd_T128 l0_6 x4_1).f0), .int .i64 ((rd_T128 l0_6 x4_1).f1), .int .i64 ((rd_T128 l0_6 x4_1).f2), .int .i64 ((rd_T128 l0_6 x4_1).f3), .int .i64 0, .int .i64 0, .int .i64 0]) ?_ 4 _ rfl; (with_reducible repeat (first | refine blk_drewN ?_ _ | refine blk_drew ?_ | refine blk_alloc ?_ _)); refine blk_put (cs := #[.int .i64 ((rd_T128 l0_6 x4_1).f0), .int .i64 ((rd_T128 l0_6 x4_1).f1), .int .i64 ((rd_T128 l0_6 x4_1).f2), .int .i64 0, .int .i64 0, .int .i64 0, .int .i64 0]) ?_ 3 _ rfl; (with_reducible repeat (first | refine blk_drewN ?_ _ | refine blk_drew ?_ | refine blk_alloc ?_ _)); refine blk_put (cs := #[.int .i64 ((rd_T128 l0_6 x4_1).f0), .int .i64 ((rd_T128 l0_6 x4_1).f1), .int .i64 0, .int .i64 0, .int .i64 0, .int .i64 0, .int .i64 0]) ?_ 2 _ rfl; (with_reducible repeat (first | refine blk_drewN ?_ _ | refine blk_drew ?_ | refine blk_alloc ?_ _)); refine blk_put (cs := #[.int .i64 ((rd_T128 l0_6 x4_1).f0), .int .i64 0, .int .i64 0, .int .i64 0, .int .i64 0, .int .i64 0, .int .i64 0]) ?_ 1 _ rfl; (with_reducible repeat (first | refine blk_drewN ?_ _ | refine blk_drew ?_ | refine blk_alloc ?_ _)); refine blk_put (cs := #[.int .i64 0, .int .i64 0, .int .i64 0, .int .i64 0, .int .i64 0, .int .i64 0, .int .i64 0]) ?_ 0 _ rfl; (with_reducible repeat (first | refine blk_drewN ?_ _ | refine blk_drew ?_ | refine blk_alloc ?_ _)); exact BK255.out) hb); have n3_ := Aside0.mk (below_step (by repeat (first | (with_reducible first | exact HB.out | apply below_alloc | apply pw_below_drewN | apply below_drew1 | refine below_set ?_ GE247.out | refine below_set ?_ GE255.out) | exact HB.out)) hb); clear BK247; clear BK255; clear HB; have HO258 := n0_; have BK247 := n1_; have BK255 := n2_; have HB := n3_; clear n0_ n1_ n2_ n3_; clear hb ho26; obtain ⟨Ao27, co27, eo27⟩ := Kd.R_slice HO258.out; subst eo27) | ((with_reducible refine gate_callee (f := 81) rfl ?_); refine goesL_ (some 56) rfl rfl Tryz.func81 (by kernel_rfl) rfl #[.slice Ao27 y256.length co27] rfl (by (try simp only [List.map_toArray, List.map_cons, List.map_nil]); first | done | rfl | (simp only [List.length_drop, List.length_take]; rfl)) ?_; (with_reducible refine (entrepotref22_ints.calls k1 _ _ y256 t259 _ ?side1 ?side2 A19.out).mono ?_); (case side1 => repeat (first | exact (Kd.R_reads' HO258.out).2.2 | (with_reducible refine Kd.C_alloc ?_ _) | (with_reducible refine Kd.C_drewN ?_ _) | (with_reducible refine Kd.C_drew ?_))); (case side2 => exact (Kd.R_reads' HO258.out).2.1); rintro e w28 ⟨rfl, hb⟩; refine ⟨_, rfl, ?_⟩; have n0_ := Aside0.mk (Kd.R_below (by (with_reducible repeat (first | apply Kd.R_alloc | apply Kd.R_drewN | apply Kd.R_drew)); exact HO258.out) hb); have n1_ := Aside0.mk (blk_below (g := gb247) (o := .cells #[.string a0_0, .int .i64 a0_1, .int .i64 a0_2, .int .i64 a0_3, .int .i64 a0_4, .int .i64 a0_5, .slice (some ad254) l0_6.length c0_6, .slice A0_7 l0_7.length c0_7] 51 (0, 0)) (by (with_reducible repeat (first | refine blk_drewN ?_ _ | refine blk_drew ?_ | refine blk_alloc ?_ _)); exact BK247.out) hb); have n2_ := Aside0.mk (blk_below (g := gb255) (o := .cells #[.int .i64 ((rd_T128 l0_6 x4_1).f0), .int .i64 ((rd_T128 l0_6 x4_1).f1), .int .i64 ((rd_T128 l0_6 x4_1).f2), .int .i64 ((rd_T128 l0_6 x4_1).f3), .int .i64 ((rd_T128 l0_6 x4_1).f4), .int .i64 ((rd_T128 l0_6 x4_1).f5), .int .i64 ((rd_T128 l0_6 x4_1).f6)] 128 (0, 0)) (by (with_reducible repeat (first | refine blk_drewN ?_ _ | refine blk_drew ?_ | refine blk_alloc ?_ _)); exact BK255.out) hb); have n3_ := Aside0.mk (below_step (by repeat (first | (with_reducible first | exact HB.out | apply below_alloc | apply pw_below_drewN | apply below_drew1 | refine below_set ?_ GE247.out | refine below_set ?_ GE255.out) | exact HB.out)) hb); clear HO258; clear BK247; clear BK255; clear HB; have HO258 := n0_; have BK247 := n1_; have BK255 := n2_; have HB := n3_; clear n0_ n1_ n2_ n3_; (try clear hb); (try clear hb2); (try clear hk); (try clear hi)))
                  go_roundg k1
                  case measure => have := HK1.out; omega
                  case rel => exact ⟨(x3_1 ++ t259), (wrap64 (x4_1 + 1)), (by first | rfl | (simp; done) | (simp [*]; done)), (by first | rfl | (simp; done) | (simp [*]; done)), H', ⟨by have := HK1.out; omega⟩, ⟨by (with_reducible repeat (first | refine blk_drewN ?_ _ | refine blk_drew ?_ | refine blk_alloc ?_ _)); exact BK247.out⟩, ⟨by repeat (first | (with_reducible first | exact HB.out | apply below_alloc | apply pw_below_drewN | apply below_drew1 | refine below_set ?_ GE247.out | refine below_set ?_ GE255.out) | exact HB.out)⟩⟩
                · rw [if_neg c20] at H
                  exact absurd H (by simp)
              · rw [if_neg c18] at H
                exact absurd H (by simp)
            · rw [if_neg c17] at H
              have c17b0 : decide (x4_1 < (l0_6.length : Int)) = false := decide_eq_false c17
              clear c17
              replace H := Option.bind_eq_some_iff.mp H
              obtain ⟨t260, A290, H⟩ := H
              replace H : (if x3_1.size + t260.size ≤ 9223372036854775807 then ((entrepotref22_ints.f k1 l0_7).bind fun t261 => (if (x3_1 ++ t260).size + t261.size ≤ 9223372036854775807 then ((entrepotref21_Seal.f k1 ((x3_1 ++ t260) ++ t261)).bind fun t262 => (some t262)) else (none))) else (none)) = some r := H
              have A29 := Aside0.mk A290
              clear A290
              by_cases c30 : x3_1.size + t260.size ≤ 9223372036854775807
              · rw [if_pos c30] at H
                have c30b0 := eq_true c30
                have c30b1 : decide (x3_1.size + t260.size ≤ 9223372036854775807) = true := decide_eq_true c30
                try have c30b2 : (9223372036854775807 < x3_1.size + t260.size) = False := eq_false (Nat.not_lt.2 c30)
                replace H := Option.bind_eq_some_iff.mp H
                obtain ⟨t261, A310, H⟩ := H
                replace H : (if (x3_1 ++ t260).size + t261.size ≤ 9223372036854775807 then ((entrepotref21_Seal.f k1 ((x3_1 ++ t260) ++ t261)).bind fun t262 => (some t262)) else (none)) = some r := H
                have A31 := Aside0.mk A310
                clear A310
                by_cases c32 : (x3_1 ++ t260).size + t261.size ≤ 9223372036854775807
                · rw [if_pos c32] at H
                  have c32b0 := eq_true c32
                  have c32b1 : decide ((x3_1 ++ t260).size + t261.size ≤ 9223372036854775807) = true := decide_eq_true c32
                  try have c32b2 : (9223372036854775807 < (x3_1 ++ t260).size + t261.size) = False := eq_false (Nat.not_lt.2 c32)
                  try have c32b4 : (9223372036854775807 < x3_1.size + t260.size + t261.size) = False := eq_false (by have h_ := c32; simp only [ByteArray.size_append] at h_; omega)
                  replace H := Option.bind_eq_some_iff.mp H
                  obtain ⟨t262, A330, H⟩ := H
                  replace H : (some t262) = some r := H
                  have A33 := Aside0.mk A330
                  clear A330
                  obtain rfl := Option.some.inj H
                  have hcz34_0 : wr.cell? ⟨gb247, 0, none⟩ = some (.string a0_0) := (blk_cell BK247.out 0).trans rfl
                  have hcz34_1 : wr.cell? ⟨gb247, 1, none⟩ = some (.int .i64 a0_1) := (blk_cell BK247.out 1).trans rfl
                  have hcz34_2 : wr.cell? ⟨gb247, 2, none⟩ = some (.int .i64 a0_2) := (blk_cell BK247.out 2).trans rfl
                  have hcz34_3 : wr.cell? ⟨gb247, 3, none⟩ = some (.int .i64 a0_3) := (blk_cell BK247.out 3).trans rfl
                  have hcz34_4 : wr.cell? ⟨gb247, 4, none⟩ = some (.int .i64 a0_4) := (blk_cell BK247.out 4).trans rfl
                  have hcz34_5 : wr.cell? ⟨gb247, 5, none⟩ = some (.int .i64 a0_5) := (blk_cell BK247.out 5).trans rfl
                  have hcz34_6 : wr.cell? ⟨gb247, 6, none⟩ = some (.slice A0_6 l0_6.length c0_6) := (blk_cell BK247.out 6).trans rfl
                  have hcz34_7 : wr.cell? ⟨gb247, 7, none⟩ = some (.slice A0_7 l0_7.length c0_7) := (blk_cell BK247.out 7).trans rfl
                  have hfz34_0 := blk_frozen BK247.out 0
                  have hfz34_1 := blk_frozen BK247.out 1
                  have hfz34_2 := blk_frozen BK247.out 2
                  have hfz34_3 := blk_frozen BK247.out 3
                  have hfz34_4 := blk_frozen BK247.out 4
                  have hfz34_5 := blk_frozen BK247.out 5
                  have hfz34_6 := blk_frozen BK247.out 6
                  have hfz34_7 := blk_frozen BK247.out 7
                  try go_wp2
                  have n0_ := Aside0.mk (blk_drew BK247.out)
                  have n1_ := Aside0.mk (below_drew1 HB.out)
                  clear BK247
                  clear HB
                  have BK247 := n0_
                  have HB := n1_
                  clear n0_ n1_
                  refine start_ (n := 12) (S := fun w' => w'.cell? ⟨gb247, 0, none⟩ = some (.string a0_0) ∧ w'.cell? ⟨gb247, 1, none⟩ = some (.int .i64 a0_1) ∧ w'.cell? ⟨gb247, 2, none⟩ = some (.int .i64 a0_2) ∧ w'.cell? ⟨gb247, 3, none⟩ = some (.int .i64 a0_3) ∧ w'.cell? ⟨gb247, 4, none⟩ = some (.int .i64 a0_4) ∧ w'.cell? ⟨gb247, 5, none⟩ = some (.int .i64 a0_5) ∧ w'.cell? ⟨gb247, 6, none⟩ = some (.slice A0_6 l0_6.length c0_6) ∧ w'.cell? ⟨gb247, 7, none⟩ = some (.slice A0_7 l0_7.length c0_7)) (ds := []) #[false, false, false, false, false, false, false, false, false, false, false, false] (by kernel_rfl) rfl rfl ⟨(blk_cell BK247.out 0).trans rfl, (blk_cell BK247.out 1).trans rfl, (blk_cell BK247.out 2).trans rfl, (blk_cell BK247.out 3).trans rfl, (blk_cell BK247.out 4).trans rfl, (blk_cell BK247.out 5).trans rfl, (blk_cell BK247.out 6).trans rfl, (blk_cell BK247.out 7).trans rfl⟩ (fun hHeld => ?_); refine with_tabW entrepotref22_Put.tab7 entrepotref22_Put.bits7 (fun HT_ HW_ => ?_)
                  generalize wr.drew = w35 at BK247 HB hHeld ⊢
                  refine pure_ (i := 0) (N := some 58) (v := ?_) (a' := ?_) #[true, false, false, false, false, false, false, false, false, false, false, false] rfl rfl (any_of HT_.out (by kernel_rfl)) (fun _ _ _ h => h) (Or.inl ⟨by rfl, ?_⟩) ?_ ?_
                  rotate_left
                  · intro w'
                    go_simp
                    with_reducible rfl
                  rotate_left
                  · simp only [Act.put, List.setIfInBounds_toArray, List.set_cons_zero, List.set_cons_succ, i64_w, i32_w]
                    rfl
                  refine pure_ (i := 1) (N := some 59) (v := ?_) (a' := ?_) #[true, true, false, false, false, false, false, false, false, false, false, false] rfl rfl (any_of HT_.out (by kernel_rfl)) (fun _ _ _ h => h) (Or.inl ⟨by rfl, ?_⟩) ?_ ?_
                  rotate_left
                  · intro w'
                    go_simp
                    with_reducible rfl
                  rotate_left
                  · simp only [Act.put, List.setIfInBounds_toArray, List.set_cons_zero, List.set_cons_succ, i64_w, i32_w]
                    rfl
                  refine pure_ (i := 6) (N := some 64) (v := ?_) (a' := ?_) #[true, true, false, false, false, false, true, false, false, false, false, false] rfl rfl (any_of HT_.out (by kernel_rfl)) (fun _ _ _ h => h) (Or.inl ⟨by rfl, ?_⟩) ?_ ?_
                  rotate_left
                  · intro w'
                    go_simp
                    with_reducible rfl
                  rotate_left
                  · simp only [Act.put, List.setIfInBounds_toArray, List.set_cons_zero, List.set_cons_succ, i64_w, i32_w]
                    rfl
                  refine take_ (i := 2) (N := some 60) (v := ?_) (a' := ?_) #[true, true, true, false, false, false, true, false, false, false, false, false] rfl rfl (take_ofW HT_.out HW_.out (by kernel_rfl)) (fun _ _ _ h => h) (Or.inl ⟨by rfl, ?_⟩) hHeld ?_ ?_
                  rotate_left
                  · rintro w' ⟨s0, s1, s2, s3, s4, s5, s6, s7⟩
                    go_simp
                    with_reducible rfl
                  rotate_left
                  · simp only [Act.put, List.setIfInBounds_toArray, List.set_cons_zero, List.set_cons_succ, i64_w, i32_w]
                    rfl
                  refine pure_ (i := 3) (N := some 61) (v := ?_) (a' := ?_) #[true, true, true, true, false, false, true, false, false, false, false, false] rfl rfl (any_of HT_.out (by kernel_rfl)) (fun _ _ _ h => h) (Or.inl ⟨by rfl, ?_⟩) ?_ ?_
                  rotate_left
                  · intro w'
                    go_simp
                    with_reducible rfl
                  rotate_left
                  · simp only [Act.put, List.setIfInBounds_toArray, List.set_cons_zero, List.set_cons_succ, i64_w, i32_w]
                    rfl
                  refine take_ (i := 7) (N := some 65) (v := ?_) (a' := ?_) #[true, true, true, true, false, false, true, true, false, false, false, false] rfl rfl (take_ofW HT_.out HW_.out (by kernel_rfl)) (fun _ _ _ h => h) (Or.inl ⟨by rfl, ?_⟩) hHeld ?_ ?_
                  rotate_left
                  · rintro w' ⟨s0, s1, s2, s3, s4, s5, s6, s7⟩
                    go_simp
                    with_reducible rfl
                  rotate_left
                  · simp only [Act.put, List.setIfInBounds_toArray, List.set_cons_zero, List.set_cons_succ, i64_w, i32_w]
                    rfl
                  refine one_ (i := 4) (N := some 62) #[true, true, true, true, true, false, true, true, false, false, false, false] rfl rfl (one_of HT_.out (by kernel_rfl)) (by decide) (fun K hK => ?_)
                  refine goes_ Tryz.func82 (by kernel_rfl) rfl #[.int .i64 (l0_7.length : Int)] (by rfl) rfl rfl (by (try simp only [List.map_toArray, List.map_cons, List.map_nil]); first | done | rfl | (simp only [List.length_drop, List.length_take]; rfl)) ?_
                  with_reducible refine (entrepotref21_PutUint.calls k1 (l0_7.length : Int) t260 _ A29.out).mono ?_
                  rintro e w36 ⟨rfl, hb⟩
                  refine ⟨_, rfl, ?_⟩
                  have n0_ := Aside0.mk (blk_below (g := gb247) (o := .cells #[.string a0_0, .int .i64 a0_1, .int .i64 a0_2, .int .i64 a0_3, .int .i64 a0_4, .int .i64 a0_5, .slice A0_6 l0_6.length c0_6, .slice A0_7 l0_7.length c0_7] 51 (0, 0)) (by (with_reducible repeat (first | refine blk_drewN ?_ _ | refine blk_drew ?_ | refine blk_alloc ?_ _)); exact BK247.out) hb)
                  have n1_ := Aside0.mk (below_step (by repeat (first | (with_reducible first | exact HB.out | apply below_alloc | apply pw_below_drewN | apply below_drew1 | refine below_set ?_ GE247.out) | exact HB.out)) hb)
                  clear BK247
                  clear HB
                  have BK247 := n0_
                  have HB := n1_
                  clear n0_ n1_
                  (try clear hb)
                  (try clear hb2)
                  (try clear hk)
                  (try clear hi)
                  refine hK.out _ _ ⟨(blk_cell BK247.out 0).trans rfl, (blk_cell BK247.out 1).trans rfl, (blk_cell BK247.out 2).trans rfl, (blk_cell BK247.out 3).trans rfl, (blk_cell BK247.out 4).trans rfl, (blk_cell BK247.out 5).trans rfl, (blk_cell BK247.out 6).trans rfl, (blk_cell BK247.out 7).trans rfl⟩ (fun hHeld => ?_)
                  clear hK K
                  refine norm_ (a' := ?_) ?_ ?_
                  rotate_left
                  · show Act.put _ (some 62) _ = _
                    simp only [Act.put, List.setIfInBounds_toArray, List.set_cons_zero, List.set_cons_succ, i64_w, i32_w]
                    rfl
                  refine pure_ (i := 5) (N := some 63) (v := ?_) (a' := ?_) #[true, true, true, true, true, true, true, true, false, false, false, false] rfl rfl (any_of HT_.out (by kernel_rfl)) (fun _ _ _ h => h) (Or.inl ⟨by rfl, ?_⟩) ?_ ?_
                  rotate_left
                  · intro w'
                    go_simp
                    with_reducible rfl
                  rotate_left
                  · simp only [Act.put, List.setIfInBounds_toArray, List.set_cons_zero, List.set_cons_succ, i64_w, i32_w]
                    rfl
                  refine one_ (i := 8) (N := some 66) #[true, true, true, true, true, true, true, true, true, false, false, false] rfl rfl (one_of HT_.out (by kernel_rfl)) (by decide) (fun K hK => ?_)
                  refine goes_ Tryz.func81 (by kernel_rfl) rfl #[.slice A0_7 l0_7.length c0_7] (by rfl) rfl rfl (by (try simp only [List.map_toArray, List.map_cons, List.map_nil]); first | done | rfl | (simp only [List.length_drop, List.length_take]; rfl)) ?_
                  with_reducible refine (entrepotref22_ints.calls k1 _ _ l0_7 t261 _ ?side1 ?side2 A31.out).mono ?_
                  (case side1 => repeat (first | exact (Kd.C_below HR0_7.out HB.out) | (with_reducible refine Kd.C_alloc ?_ _) | (with_reducible refine Kd.C_drewN ?_ _) | (with_reducible refine Kd.C_drew ?_)))
                  (case side2 => exact HC0_7.out)
                  rintro e w37 ⟨rfl, hb⟩
                  refine ⟨_, rfl, ?_⟩
                  have n0_ := Aside0.mk (blk_below (g := gb247) (o := .cells #[.string a0_0, .int .i64 a0_1, .int .i64 a0_2, .int .i64 a0_3, .int .i64 a0_4, .int .i64 a0_5, .slice A0_6 l0_6.length c0_6, .slice A0_7 l0_7.length c0_7] 51 (0, 0)) (by (with_reducible repeat (first | refine blk_drewN ?_ _ | refine blk_drew ?_ | refine blk_alloc ?_ _)); exact BK247.out) hb)
                  have n1_ := Aside0.mk (below_step (by repeat (first | (with_reducible first | exact HB.out | apply below_alloc | apply pw_below_drewN | apply below_drew1 | refine below_set ?_ GE247.out) | exact HB.out)) hb)
                  clear BK247
                  clear HB
                  have BK247 := n0_
                  have HB := n1_
                  clear n0_ n1_
                  (try clear hb)
                  (try clear hb2)
                  (try clear hk)
                  (try clear hi)
                  refine hK.out _ _ ⟨(blk_cell BK247.out 0).trans rfl, (blk_cell BK247.out 1).trans rfl, (blk_cell BK247.out 2).trans rfl, (blk_cell BK247.out 3).trans rfl, (blk_cell BK247.out 4).trans rfl, (blk_cell BK247.out 5).trans rfl, (blk_cell BK247.out 6).trans rfl, (blk_cell BK247.out 7).trans rfl⟩ (fun hHeld => ?_)
                  clear hK K
                  refine norm_ (a' := ?_) ?_ ?_
                  rotate_left
                  · show Act.put _ (some 66) _ = _
                    simp only [Act.put, List.setIfInBounds_toArray, List.set_cons_zero, List.set_cons_succ, i64_w, i32_w]
                    rfl
                  refine pure_ (i := 9) (N := some 67) (v := ?_) (a' := ?_) #[true, true, true, true, true, true, true, true, true, true, false, false] rfl rfl (any_of HT_.out (by kernel_rfl)) (fun _ _ _ h => h) (Or.inl ⟨by rfl, ?_⟩) ?_ ?_
                  rotate_left
                  · intro w'
                    go_simp
                    with_reducible rfl
                  rotate_left
                  · simp only [Act.put, List.setIfInBounds_toArray, List.set_cons_zero, List.set_cons_succ, i64_w, i32_w]
                    rfl
                  refine one_ (i := 10) (N := some 68) #[true, true, true, true, true, true, true, true, true, true, true, false] rfl rfl (one_of HT_.out (by kernel_rfl)) (by decide) (fun K hK => ?_)
                  refine goes_ Tryz.func34 (by kernel_rfl) rfl #[.string ((x3_1 ++ t260) ++ t261)] (by rfl) rfl rfl (by (try simp only [List.map_toArray, List.map_cons, List.map_nil]); first | done | rfl | (simp only [List.length_drop, List.length_take]; rfl)) ?_
                  with_reducible refine (entrepotref21_Seal.calls k1 ((x3_1 ++ t260) ++ t261) t262 _ A33.out).mono ?_
                  rintro e w38 ⟨rfl, hb⟩
                  refine ⟨_, rfl, ?_⟩
                  have n0_ := Aside0.mk (blk_below (g := gb247) (o := .cells #[.string a0_0, .int .i64 a0_1, .int .i64 a0_2, .int .i64 a0_3, .int .i64 a0_4, .int .i64 a0_5, .slice A0_6 l0_6.length c0_6, .slice A0_7 l0_7.length c0_7] 51 (0, 0)) (by (with_reducible repeat (first | refine blk_drewN ?_ _ | refine blk_drew ?_ | refine blk_alloc ?_ _)); exact BK247.out) hb)
                  have n1_ := Aside0.mk (below_step (by repeat (first | (with_reducible first | exact HB.out | apply below_alloc | apply pw_below_drewN | apply below_drew1 | refine below_set ?_ GE247.out) | exact HB.out)) hb)
                  clear BK247
                  clear HB
                  have BK247 := n0_
                  have HB := n1_
                  clear n0_ n1_
                  (try clear hb)
                  (try clear hb2)
                  (try clear hk)
                  (try clear hi)
                  refine hK.out _ _ ⟨(blk_cell BK247.out 0).trans rfl, (blk_cell BK247.out 1).trans rfl, (blk_cell BK247.out 2).trans rfl, (blk_cell BK247.out 3).trans rfl, (blk_cell BK247.out 4).trans rfl, (blk_cell BK247.out 5).trans rfl, (blk_cell BK247.out 6).trans rfl, (blk_cell BK247.out 7).trans rfl⟩ (fun hHeld => ?_)
                  clear hK K
                  refine norm_ (a' := ?_) ?_ ?_
                  rotate_left
                  · show Act.put _ (some 68) _ = _
                    simp only [Act.put, List.setIfInBounds_toArray, List.set_cons_zero, List.set_cons_succ, i64_w, i32_w]
                    rfl
                  refine pure_ (i := 11) (N := some 2) (v := ?_) (a' := ?_) #[true, true, true, true, true, true, true, true, true, true, true, true] rfl rfl (any_of HT_.out (by kernel_rfl)) (fun _ _ _ h => h) (Or.inl ⟨by rfl, ?_⟩) ?_ ?_
                  rotate_left
                  · intro w'
                    go_simp
                    with_reducible rfl
                  rotate_left
                  · simp only [Act.put, List.setIfInBounds_toArray, List.set_cons_zero, List.set_cons_succ, i64_w, i32_w]
                    rfl
                  refine done_ (done_of HT_.out (by kernel_rfl)) ?_
                  try go_wp2
                  go_ret
                  exact ⟨by first | rfl | (simp [errW_none, errW_some] <;> rfl) | (simp [*, errW_none, errW_some] <;> rfl), by repeat (first | (with_reducible first | exact HB.out | apply below_alloc | apply pw_below_drewN | apply below_drew1 | refine below_set ?_ GE247.out) | exact HB.out)⟩
                · rw [if_neg c32] at H
                  exact absurd H (by simp)
              · rw [if_neg c30] at H
                exact absurd H (by simp)
      · rw [if_neg c7] at H
        exact absurd H (by simp)
    · rw [if_neg c5] at H
      exact absurd H (by simp)
  · rw [if_neg c3] at H
    exact absurd H (by simp)
end Go.Proofs.YtofklpphalalhaaGreatDoor.PAll
