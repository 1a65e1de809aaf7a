-- Written by a program out of the translation, for several roots at once (set All). Not trusted: Lean checks it.
import Derived.Test.YtgphciopondlaaaDoorPAllx0
import Derived.Test.YtgphciopondlaaaDoorPAllx2
import Derived.Test.YtgphciopondlaaaDoorGivenL
namespace Go.Proofs.YtgphciopondlaaaDoor.PAll
open Go.RowKit Go.Proofs.YtgphciopondlaaaDoorW.PrintWords Go.Proofs.YtgphciopondlaaaDoorW.PrintLast Go.Proofs.YtgphciopondlaaaDoorW.PrintMore
attribute [local go_sem] max2_int min2_int max_two min_two max_three min_three max_four min_four   -- for this text's walks alone
set_option linter.unusedVariables false
set_option linter.unusedSimpArgs false

/-! ### entrepotref04_digits: function 30 -/
def entrepotref04_digits.l0 : Nat → Int → ByteArray → Option (ByteArray)
  | 0, _, _ => none
  | k + 1, x0, x3 => if x0 > 0 then ((some (([(48 + ((Int.tmod x0 10) % 256)) % 256] : List Int) : List Int)).bind fun y182 => (if (strOfNums y182).size + x3.size ≤ 9223372036854775807 then (entrepotref04_digits.l0 k (IntKind.u64.wrap (Int.tdiv x0 10)) ((strOfNums y182) ++ x3)) else (none))) else (if x3.toList = ([] : List UInt8) then ((some (([(48 + ((Int.tmod x0 10) % 256)) % 256] : List Int) : List Int)).bind fun y185 => (if (strOfNums y185).size + x3.size ≤ 9223372036854775807 then (entrepotref04_digits.l0 k (IntKind.u64.wrap (Int.tdiv x0 10)) ((strOfNums y185) ++ x3)) else (none))) else (some x3))
def entrepotref04_digits.f (k : Nat) (a0 : Int) : Option (ByteArray) := entrepotref04_digits.l0 k a0 (⟨#[]⟩ : ByteArray)
theorem entrepotref04_digits.mono_l : ∀ k, (∀ y0 y1, LeO (entrepotref04_digits.l0 k y0 y1) (entrepotref04_digits.l0 (k + 1) y0 y1))
  | 0 => fun _ _ r h => by simp [entrepotref04_digits.l0] at h
  | k + 1 => by
    have ih0 := entrepotref04_digits.mono_l k
    · intro y0 y1
      unfold entrepotref04_digits.l0
      repeat' first
      | (with_reducible exact ih0 _ _)
      | (with_reducible exact LeO.refl _)
      | (with_reducible exact LeO.none _)
      | (with_reducible refine LeO.ite ?_ ?_)
      | (with_reducible refine LeO.bind ?_ (fun _ => ?_))
      | exact ih0 _ _
      | exact LeO.none _
      | refine LeO.ite ?_ ?_
      | refine LeO.bind ?_ (fun _ => ?_)
theorem entrepotref04_digits.mono : ∀ a0 k, LeO (entrepotref04_digits.f k a0) (entrepotref04_digits.f (k + 1) a0) := by
  intro a0 k
  have ih0 := entrepotref04_digits.mono_l k
  unfold entrepotref04_digits.f
  repeat' first
      | (with_reducible exact ih0 _ _)
      | (with_reducible exact LeO.refl _)
      | (with_reducible exact LeO.none _)
      | (with_reducible refine LeO.ite ?_ ?_)
      | (with_reducible refine LeO.bind ?_ (fun _ => ?_))
      | exact ih0 _ _
      | exact LeO.none _
      | refine LeO.ite ?_ ?_
      | refine LeO.bind ?_ (fun _ => ?_)
set_option maxHeartbeats 8000000 in
set_option maxRecDepth 100000 in
theorem entrepotref04_digits.calls (k : Nat) (a0 : Int) (r : ByteArray) (w : World) (h : entrepotref04_digits.f k a0 = some r) :
    Calls Tryd.prog 30 #[.int .u64 a0] w fun e w' => e = .returned (.string r) ∧ Below w.heap.size w w' := by
  have HB := Aside0.mk (Below.refl w.heap.size w)
  have H : (entrepotref04_digits.l0 k a0 (⟨#[]⟩ : ByteArray)) = some r := h
  clear h
  have H' := Aside0.mk H
  clear H
  go_enter Tryd.func30, Tryd.ntmps30
  go_wp2
  go_loopg [0, 3] k (fun kq v0 v3 w' => ∃ (x0_1 : Int) (x3_1 : ByteArray), v0 = .int .u64 x0_1 ∧ v3 = .string x3_1 ∧ Aside0 (entrepotref04_digits.l0 kq x0_1 x3_1 = some r) ∧ Aside0 (kq ≤ k) ∧ Aside0 (Below w.heap.size w w'))
  case atStart => exact ⟨(a0), ((⟨#[]⟩ : ByteArray)), (by first | rfl | (simp; done) | (simp [*]; done)), (by first | rfl | (simp; done) | (simp [*]; done)), H', ⟨Nat.le_refl _⟩, ⟨by repeat (first | (with_reducible first | exact HB.out | apply below_alloc | apply pw_below_drewN | apply below_drew1) | exact HB.out)⟩⟩
  case round =>
    clear H'
    obtain ⟨x0_1, x3_1, rfl, rfl, HA, HK1, HB⟩ := hrel
    cases gk with
    | zero => exact absurd HA.out (by simp [entrepotref04_digits.l0])
    | succ k1 =>
      have H := HA.out
      clear HA
      simp only [entrepotref04_digits.l0] at H
      by_cases c2 : x0_1 > 0
      · rw [if_pos c2] at H
        have c2b0 : decide (0 < x0_1) = true := decide_eq_true c2
        clear c2
        obtain ⟨y182, hy182⟩ : ∃ y_ : List Int, y_ = (([(48 + ((Int.tmod x0_1 10) % 256)) % 256] : List Int)) := ⟨_, rfl⟩
        replace H : (if (strOfNums y182).size + x3_1.size ≤ 9223372036854775807 then (entrepotref04_digits.l0 k1 (IntKind.u64.wrap (Int.tdiv x0_1 10)) ((strOfNums y182) ++ x3_1)) else (none)) = some r := by first | (rw [hy182]; with_reducible exact H) | (have H2_ := (Option.bind_some _ _).symm.trans H; rw [hy182]; with_reducible exact H2_) | (have H2_ := (Option.bind_some _ _).symm.trans H; with_reducible exact H2_) | with_reducible exact H | (rw [hy182]; exact H) | exact H
        have Ny182 := Aside0.mk hy182
        clear hy182
        by_cases c3 : (strOfNums y182).size + x3_1.size ≤ 9223372036854775807
        · rw [if_pos c3] at H
          have c3b0 := eq_true c3
          have c3b1 : decide ((strOfNums y182).size + x3_1.size ≤ 9223372036854775807) = true := decide_eq_true c3
          try have c3b2 : (9223372036854775807 < (strOfNums y182).size + x3_1.size) = False := eq_false (Nat.not_lt.2 c3)
          have H' := Aside0.mk H
          clear H
          go_wp2_with (first | ((with_reducible refine gate_dst (N := 14) rfl ?_); refine Kd.R_lit (Kd.int .u8) _ 5 ?hg (N := 14) ?hd (xs := ([(48 + ((Int.tmod x0_1 10) % 256)) % 256] : List Int)) (inner := [.int .u8 ((48 + ((Int.tmod x0_1 10) % 256)) % 256)]) (ok := fun _ => True) (okp := fun _ => True) ?hr ?hp (fun _ hk => hk) trivial (Below.refl _ _) (Nat.le_refl _) (by simp) ?_; (case hd => rfl); (case hg => rfl); (case hr => first | (go_simp; done) | (go_simp; rfl)); (case hp => exact (Reps.one (show Kd.M (Kd.int .u8) _ _ _ ((48 + ((Int.tmod x0_1 10) % 256)) % 256) [.int .u8 ((48 + ((Int.tmod x0_1 10) % 256)) % 256)] from rfl) (Reps.none _ _))); intro v183 w4 ho5 hb hg_ hnew_; clear hg_ hnew_; (first | rw [← Ny182.out] at ho5 | (simp only [Int.reduceToNat] at ho5; rw [← Ny182.out] at ho5)); have n0_ := Aside0.mk (Kd.R_lower ho5 (below_size (by repeat (first | (with_reducible first | exact HB.out | apply below_alloc | apply pw_below_drewN | apply below_drew1) | exact HB.out)))); have n1_ := Aside0.mk (below_step (by repeat (first | (with_reducible first | exact HB.out | apply below_alloc | apply pw_below_drewN | apply below_drew1) | exact HB.out)) hb); clear HB; have HO184 := n0_; have HB := n1_; clear n0_ n1_; clear hb ho5; have hcv6 := own_string (P := Tryd.prog) Tryd.underlying61 Tryd.underlying5 Tryd.underlying9 (Kd.own_of_R HO184.out)))
          go_roundg k1
          case measure => have := HK1.out; omega
          case rel => exact ⟨(IntKind.u64.wrap (Int.tdiv x0_1 10)), ((strOfNums y182) ++ x3_1), (by first | rfl | (simp; done) | (simp [*]; done)), (by first | rfl | (simp; done) | (simp [*]; done)), H', ⟨by have := HK1.out; omega⟩, ⟨by repeat (first | (with_reducible first | exact HB.out | apply below_alloc | apply pw_below_drewN | apply below_drew1) | exact HB.out)⟩⟩
        · rw [if_neg c3] at H
          exact absurd H (by simp)
      · rw [if_neg c2] at H
        have c2b0 : decide (0 < x0_1) = false := decide_eq_false c2
        clear c2
        by_cases c7 : x3_1.toList = ([] : List UInt8)
        · rw [if_pos c7] at H
          have c7b0 : (x3_1.toList == ([] : List UInt8)) = true := beq_iff_eq.mpr c7
          have c7b1 : (x3_1.toList != ([] : List UInt8)) = false := bne_eq_false_iff_eq.mpr c7
          clear c7
          obtain ⟨y185, hy185⟩ : ∃ y_ : List Int, y_ = (([(48 + ((Int.tmod x0_1 10) % 256)) % 256] : List Int)) := ⟨_, rfl⟩
          replace H : (if (strOfNums y185).size + x3_1.size ≤ 9223372036854775807 then (entrepotref04_digits.l0 k1 (IntKind.u64.wrap (Int.tdiv x0_1 10)) ((strOfNums y185) ++ x3_1)) else (none)) = some r := by first | (rw [hy185]; with_reducible exact H) | (have H2_ := (Option.bind_some _ _).symm.trans H; rw [hy185]; with_reducible exact H2_) | (have H2_ := (Option.bind_some _ _).symm.trans H; with_reducible exact H2_) | with_reducible exact H | (rw [hy185]; exact H) | exact H
          have Ny185 := Aside0.mk hy185
          clear hy185
          by_cases c8 : (strOfNums y185).size + x3_1.size ≤ 9223372036854775807
          · rw [if_pos c8] at H
            have c8b0 := eq_true c8
            have c8b1 : decide ((strOfNums y185).size + x3_1.size ≤ 9223372036854775807) = true := decide_eq_true c8
            try have c8b2 : (9223372036854775807 < (strOfNums y185).size + x3_1.size) = False := eq_false (Nat.not_lt.2 c8)
            have H' := Aside0.mk H
            clear H
            go_wp2_with (first | ((with_reducible refine gate_dst (N := 14) rfl ?_); refine Kd.R_lit (Kd.int .u8) _ 5 ?hg (N := 14) ?hd (xs := ([(48 + ((Int.tmod x0_1 10) % 256)) % 256] : List Int)) (inner := [.int .u8 ((48 + ((Int.tmod x0_1 10) % 256)) % 256)]) (ok := fun _ => True) (okp := fun _ => True) ?hr ?hp (fun _ hk => hk) trivial (Below.refl _ _) (Nat.le_refl _) (by simp) ?_; (case hd => rfl); (case hg => rfl); (case hr => first | (go_simp; done) | (go_simp; rfl)); (case hp => exact (Reps.one (show Kd.M (Kd.int .u8) _ _ _ ((48 + ((Int.tmod x0_1 10) % 256)) % 256) [.int .u8 ((48 + ((Int.tmod x0_1 10) % 256)) % 256)] from rfl) (Reps.none _ _))); intro v186 w9 ho10 hb hg_ hnew_; clear hg_ hnew_; (first | rw [← Ny185.out] at ho10 | (simp only [Int.reduceToNat] at ho10; rw [← Ny185.out] at ho10)); have n0_ := Aside0.mk (Kd.R_lower ho10 (below_size (by repeat (first | (with_reducible first | exact HB.out | apply below_alloc | apply pw_below_drewN | apply below_drew1) | exact HB.out)))); have n1_ := Aside0.mk (below_step (by repeat (first | (with_reducible first | exact HB.out | apply below_alloc | apply pw_below_drewN | apply below_drew1) | exact HB.out)) hb); clear HB; have HO187 := n0_; have HB := n1_; clear n0_ n1_; clear hb ho10; have hcv11 := own_string (P := Tryd.prog) Tryd.underlying61 Tryd.underlying5 Tryd.underlying9 (Kd.own_of_R HO187.out)))
            go_roundg k1
            case measure => have := HK1.out; omega
            case rel => exact ⟨(IntKind.u64.wrap (Int.tdiv x0_1 10)), ((strOfNums y185) ++ x3_1), (by first | rfl | (simp; done) | (simp [*]; done)), (by first | rfl | (simp; done) | (simp [*]; done)), H', ⟨by have := HK1.out; omega⟩, ⟨by repeat (first | (with_reducible first | exact HB.out | apply below_alloc | apply pw_below_drewN | apply below_drew1) | exact HB.out)⟩⟩
          · rw [if_neg c8] at H
            exact absurd H (by simp)
        · rw [if_neg c7] at H
          have c7b0 : (x3_1.toList == ([] : List UInt8)) = false := beq_eq_false_iff_ne.mpr c7
          have c7b1 : (x3_1.toList != ([] : List UInt8)) = true := bne_iff_ne.mpr c7
          obtain rfl := Option.some.inj H
          go_wp2
          go_ret
          exact ⟨by first | rfl | (simp [errW_none, errW_some] <;> rfl) | (simp [*, errW_none, errW_some] <;> rfl), by repeat (first | (with_reducible first | exact HB.out | apply below_alloc | apply pw_below_drewN | apply below_drew1) | exact HB.out)⟩

/-! ### entrepotref04_Num: function 15 -/
def entrepotref04_Num.f (k : Nat) (a0 : Int) : Option (ByteArray) := if a0 ≥ 0 then ((entrepotref04_digits.f k (IntKind.u64.wrap (a0))).bind fun t188 => (some t188)) else ((entrepotref04_digits.f k (IntKind.u64.wrap ((IntKind.u64.wrap (wrap64 (-(wrap64 (a0 + 1))))) + 1))).bind fun t189 => (if 1 + t189.size ≤ 9223372036854775807 then (some ((⟨#[45]⟩ : ByteArray) ++ t189)) else (none)))
theorem entrepotref04_Num.mono : ∀ a0 k, LeO (entrepotref04_Num.f k a0) (entrepotref04_Num.f (k + 1) a0) := by
  intro a0 k
  unfold entrepotref04_Num.f
  repeat' first
      | (with_reducible exact entrepotref04_digits.mono _ _)
      | (with_reducible exact LeO.refl _)
      | (with_reducible exact LeO.none _)
      | (with_reducible refine LeO.ite ?_ ?_)
      | (with_reducible refine LeO.bind ?_ (fun _ => ?_))
      | exact entrepotref04_digits.mono _ _
      | exact LeO.none _
      | refine LeO.ite ?_ ?_
      | refine LeO.bind ?_ (fun _ => ?_)
set_option maxHeartbeats 8000000 in
set_option maxRecDepth 100000 in
theorem entrepotref04_Num.calls (k : Nat) (a0 : Int) (r : ByteArray) (w : World) (h : entrepotref04_Num.f k a0 = some r) :
    Calls Tryd.prog 15 #[.int .i64 a0] w fun e w' => e = .returned (.string r) ∧ Below w.heap.size w w' := by
  have HB := Aside0.mk (Below.refl w.heap.size w)
  have H : (if a0 ≥ 0 then ((entrepotref04_digits.f k (IntKind.u64.wrap (a0))).bind fun t188 => (some t188)) else ((entrepotref04_digits.f k (IntKind.u64.wrap ((IntKind.u64.wrap (wrap64 (-(wrap64 (a0 + 1))))) + 1))).bind fun t189 => (if 1 + t189.size ≤ 9223372036854775807 then (some ((⟨#[45]⟩ : ByteArray) ++ t189)) else (none)))) = some r := h
  clear h
  by_cases c2 : a0 ≥ 0
  · rw [if_pos c2] at H
    have c2b0 : decide (0 ≤ a0) = true := decide_eq_true c2
    clear c2
    replace H := Option.bind_eq_some_iff.mp H
    obtain ⟨t188, A30, H⟩ := H
    replace H : (some t188) = some r := H
    have A3 := Aside0.mk A30
    clear A30
    obtain rfl := Option.some.inj H
    go_enter Tryd.func15, Tryd.ntmps15
    go_wp2_with (first | ((with_reducible refine gate_callee (f := 30) rfl ?_); refine goesL_ (some 7) rfl rfl Tryd.func30 (by kernel_rfl) rfl #[.int .u64 (IntKind.u64.wrap (a0))] rfl (by (try simp only [List.map_toArray, List.map_cons, List.map_nil]); first | done | rfl | (simp only [List.length_drop, List.length_take]; rfl)) ?_; (with_reducible refine (entrepotref04_digits.calls k (IntKind.u64.wrap (a0)) t188 _ A3.out).mono ?_); rintro e w4 ⟨rfl, hb⟩; refine ⟨_, rfl, ?_⟩; have n0_ := Aside0.mk (below_step (by repeat (first | (with_reducible first | exact HB.out | apply below_alloc | apply pw_below_drewN | apply below_drew1) | exact HB.out)) hb); clear HB; have HB := n0_; clear n0_; (try clear hb); (try clear hb2); (try clear hk); (try clear hi)))
    go_ret
    exact ⟨by first | rfl | (simp [errW_none, errW_some] <;> rfl) | (simp [*, errW_none, errW_some] <;> rfl), by repeat (first | (with_reducible first | exact HB.out | apply below_alloc | apply pw_below_drewN | apply below_drew1) | exact HB.out)⟩
  · rw [if_neg c2] at H
    have c2b0 : decide (0 ≤ a0) = false := decide_eq_false c2
    clear c2
    replace H := Option.bind_eq_some_iff.mp H
    obtain ⟨t189, A50, H⟩ := H
    replace H : (if 1 + t189.size ≤ 9223372036854775807 then (some ((⟨#[45]⟩ : ByteArray) ++ t189)) else (none)) = some r := H
    have A5 := Aside0.mk A50
    clear A50
    by_cases c6 : 1 + t189.size ≤ 9223372036854775807
    · rw [if_pos c6] at H
      have c6b0 := eq_true c6
      have c6b1 : decide (1 + t189.size ≤ 9223372036854775807) = true := decide_eq_true c6
      try have c6b2 : (9223372036854775807 < 1 + t189.size) = False := eq_false (Nat.not_lt.2 c6)
      obtain rfl := Option.some.inj H
      go_enter Tryd.func15, Tryd.ntmps15
      go_wp2_with (first | ((with_reducible refine gate_callee (f := 30) rfl ?_); refine goesL_ (some 13) rfl rfl Tryd.func30 (by kernel_rfl) rfl #[.int .u64 (IntKind.u64.wrap ((IntKind.u64.wrap (wrap64 (-(wrap64 (a0 + 1))))) + 1))] rfl (by (try simp only [List.map_toArray, List.map_cons, List.map_nil]); first | done | rfl | (simp only [List.length_drop, List.length_take]; rfl)) ?_; (with_reducible refine (entrepotref04_digits.calls k (IntKind.u64.wrap ((IntKind.u64.wrap (wrap64 (-(wrap64 (a0 + 1))))) + 1)) t189 _ A5.out).mono ?_); rintro e w7 ⟨rfl, hb⟩; refine ⟨_, rfl, ?_⟩; have n0_ := Aside0.mk (below_step (by repeat (first | (with_reducible first | exact HB.out | apply below_alloc | apply pw_below_drewN | apply below_drew1) | exact HB.out)) hb); clear HB; have HB := n0_; clear n0_; (try clear hb); (try clear hb2); (try clear hk); (try clear hi)))
      go_ret
      exact ⟨by first | rfl | (simp [errW_none, errW_some] <;> rfl) | (simp [*, errW_none, errW_some] <;> rfl), by repeat (first | (with_reducible first | exact HB.out | apply below_alloc | apply pw_below_drewN | apply below_drew1) | exact HB.out)⟩
    · rw [if_neg c6] at H
      exact absurd H (by simp)

/-! ### entrepotref01_Where: function 29 -/
mutual
def entrepotref01_Where.j0 : Nat → ByteArray → Int → Bool → Option (Int × Int × Int)
  | 0, _, _, _ => none
  | k + 1, x0, x1, x17 => if x17 = true then (some (0, 0, 10)) else (entrepotref01_Where.l0 k x0 x1 1 1 0)
def entrepotref01_Where.l0 : Nat → ByteArray → Int → Int → Int → Int → Option (Int × Int × Int)
  | 0, _, _, _, _, _ => none
  | k + 1, x0, x1, x7, x8, x9 => if x9 < x1 then (if 0 ≤ x9 then (if x9 < (x0.size : Int) then (if (bt x0 x9) = 10 then (entrepotref01_Where.l0 k x0 x1 (wrap64 (x7 + 1)) 1 (wrap64 (x9 + 1))) else (entrepotref01_Where.l0 k x0 x1 x7 (wrap64 (x8 + 1)) (wrap64 (x9 + 1)))) else (none)) else (none)) else (some (x7, x8, 0))
end
def entrepotref01_Where.f (k : Nat) (a0 : ByteArray) (a1 : Int) : Option (Int × Int × Int) := if a1 < 0 then (entrepotref01_Where.j0 k a0 a1 true) else (entrepotref01_Where.j0 k a0 a1 (decide (a1 > (a0.size : Int))))
theorem entrepotref01_Where.mono_l : ∀ k, (∀ y0 y1 y2, LeO (entrepotref01_Where.j0 k y0 y1 y2) (entrepotref01_Where.j0 (k + 1) y0 y1 y2)) ∧ (∀ y0 y1 y2 y3 y4, LeO (entrepotref01_Where.l0 k y0 y1 y2 y3 y4) (entrepotref01_Where.l0 (k + 1) y0 y1 y2 y3 y4))
  | 0 => ⟨fun _ _ _ r h => by simp [entrepotref01_Where.j0] at h, fun _ _ _ _ _ r h => by simp [entrepotref01_Where.l0] at h⟩
  | k + 1 => by
    obtain ⟨ih0, ih1⟩ := entrepotref01_Where.mono_l k
    refine ⟨?_, ?_⟩
    · intro y0 y1 y2
      unfold entrepotref01_Where.j0
      repeat' first
      | (with_reducible exact ih0 _ _ _)
      | (with_reducible exact ih1 _ _ _ _ _)
      | (with_reducible exact LeO.refl _)
      | (with_reducible exact LeO.none _)
      | (with_reducible refine LeO.ite ?_ ?_)
      | (with_reducible refine LeO.bind ?_ (fun _ => ?_))
      | exact ih0 _ _ _
      | exact ih1 _ _ _ _ _
      | exact LeO.none _
      | refine LeO.ite ?_ ?_
      | refine LeO.bind ?_ (fun _ => ?_)
    · intro y0 y1 y2 y3 y4
      unfold entrepotref01_Where.l0
      repeat' first
      | (with_reducible exact ih0 _ _ _)
      | (with_reducible exact ih1 _ _ _ _ _)
      | (with_reducible exact LeO.refl _)
      | (with_reducible exact LeO.none _)
      | (with_reducible refine LeO.ite ?_ ?_)
      | (with_reducible refine LeO.bind ?_ (fun _ => ?_))
      | exact ih0 _ _ _
      | exact ih1 _ _ _ _ _
      | exact LeO.none _
      | refine LeO.ite ?_ ?_
      | refine LeO.bind ?_ (fun _ => ?_)
theorem entrepotref01_Where.mono : ∀ a0 a1 k, LeO (entrepotref01_Where.f k a0 a1) (entrepotref01_Where.f (k + 1) a0 a1) := by
  intro a0 a1 k
  obtain ⟨ih0, ih1⟩ := entrepotref01_Where.mono_l k
  unfold entrepotref01_Where.f
  repeat' first
      | (with_reducible exact ih0 _ _ _)
      | (with_reducible exact ih1 _ _ _ _ _)
      | (with_reducible exact LeO.refl _)
      | (with_reducible exact LeO.none _)
      | (with_reducible refine LeO.ite ?_ ?_)
      | (with_reducible refine LeO.bind ?_ (fun _ => ?_))
      | exact ih0 _ _ _
      | exact ih1 _ _ _ _ _
      | exact LeO.none _
      | refine LeO.ite ?_ ?_
      | refine LeO.bind ?_ (fun _ => ?_)
set_option maxHeartbeats 8000000 in
set_option maxRecDepth 100000 in
theorem entrepotref01_Where.calls (k : Nat) (a0 : ByteArray) (a1 : Int) (r1 : Int) (r2 : Int) (r3 : Int) (w : World) (h : entrepotref01_Where.f k a0 a1 = some (r1, r2, r3)) :
    Calls Tryd.prog 29 #[.string a0, .int .i64 a1] w fun e w' => e = .returned (.tuple #[.int .i64 r1, .int .i64 r2, .int .i64 r3]) ∧ Drawn0 w w' := by
  have H : (if a1 < 0 then (entrepotref01_Where.j0 k a0 a1 true) else (entrepotref01_Where.j0 k a0 a1 (decide (a1 > (a0.size : Int))))) = some (r1, r2, r3) := h
  clear h
  have HC3 := Aside0.mk H
  clear H
  go_enter Tryd.func29, Tryd.ntmps29
  go_upto_region 1 with (fail)
  go_cut [17] (fun v17 wc => ∃ (kq : Nat) (x17_2 : Bool), v17 = .bool x17_2 ∧ Aside0 (entrepotref01_Where.j0 kq a0 a1 x17_2 = some (r1, r2, r3)) ∧ Aside0 (kq ≤ k) ∧ Drawn0 w wc)
  case first =>
    have H := HC3.out
    clear HC3
    by_cases c4 : a1 < 0
    · rw [if_pos c4] at H
      have c4b0 : decide (a1 < 0) = true := decide_eq_true c4
      clear c4
      (first | rw [c4b0] | (simp only [i64_w, i32_w]; rw [c4b0]) | skip)
      have H' := Aside0.mk H
      clear H
      go_wp2
      go_meet
      case rel => exact ⟨_, (true), (by first | rfl | (simp; done) | (simp [*]; done)), H', ⟨by first | omega | exact Nat.le_refl _⟩, by repeat (first | exact Drawn0.refl _ | apply Drawn0.step)⟩
    · rw [if_neg c4] at H
      have c4b0 : decide (a1 < 0) = false := decide_eq_false c4
      clear c4
      (first | rw [c4b0] | (simp only [i64_w, i32_w]; rw [c4b0]) | skip)
      have H' := Aside0.mk H
      clear H
      go_wp2
      go_meet
      case rel => exact ⟨_, (decide (a1 > (a0.size : Int))), (by first | rfl | (simp; done) | (simp [*]; done)), H', ⟨by first | omega | exact Nat.le_refl _⟩, by repeat (first | exact Drawn0.refl _ | apply Drawn0.step)⟩
  case rest =>
    clear HC3
    try clear c2
    try clear p2
    try clear c4
    try clear c4b0
    obtain ⟨kq, x17_2, rfl, HA, HJ2, ⟨mc2, rfl⟩⟩ := hcut
    cases kq with
    | zero => exact absurd HA.out (by simp [entrepotref01_Where.j0])
    | succ kj2 =>
      have H := HA.out
      clear HA
      simp only [entrepotref01_Where.j0] at H
      by_cases c5 : x17_2 = true
      · subst c5
        have H1 : (some (0, 0, 10)) = some (r1, r2, r3) := by rw [if_pos rfl] at H; exact H
        clear H
        have H := H1
        clear H1
        simp only [Option.some.injEq, Prod.mk.injEq] at H
        obtain ⟨rfl, rfl, rfl⟩ := H
        go_wp2
        go_ret3
        exact ⟨by first | rfl | (simp; done) | (simp [*]; done), by repeat (first | exact Drawn0.refl _ | apply Drawn0.step)⟩
      · replace c5 := Bool.eq_false_iff.mpr c5
        subst c5
        have H1 : (entrepotref01_Where.l0 kj2 a0 a1 1 1 0) = some (r1, r2, r3) := by rw [if_neg (show ¬ (false = true) by decide)] at H; exact H
        clear H
        have H := H1
        clear H1
        have H' := Aside0.mk H
        clear H
        go_wp2
        go_loopg [7, 8, 9] kj2 (fun kq v7 v8 v9 w' => ∃ (x7_2 : Int) (x8_2 : Int) (x9_2 : Int), v7 = .int .i64 x7_2 ∧ v8 = .int .i64 x8_2 ∧ v9 = .int .i64 x9_2 ∧ Aside0 (entrepotref01_Where.l0 kq a0 a1 x7_2 x8_2 x9_2 = some (r1, r2, r3)) ∧ Aside0 (kq ≤ kj2) ∧ Drawn0 w w')
        case atStart => exact ⟨(1), (1), (0), (by first | rfl | (simp; done) | (simp [*]; done)), (by first | rfl | (simp; done) | (simp [*]; done)), (by first | rfl | (simp; done) | (simp [*]; done)), H', ⟨Nat.le_refl _⟩, by repeat (first | exact Drawn0.refl _ | apply Drawn0.step)⟩
        case round =>
          clear H'
          try clear c2
          try clear p2
          try clear c4
          try clear c4b0
          try clear c5
          try clear p2
          obtain ⟨x7_2, x8_2, x9_2, rfl, rfl, rfl, HA, HK2, ⟨m2, rfl⟩⟩ := hrel
          cases gk with
          | zero => exact absurd HA.out (by simp [entrepotref01_Where.l0])
          | succ k2 =>
            have H := HA.out
            clear HA
            simp only [entrepotref01_Where.l0] at H
            by_cases c6 : x9_2 < a1
            · rw [if_pos c6] at H
              have c6b0 : decide (x9_2 < a1) = true := decide_eq_true c6
              clear c6
              by_cases c7 : 0 ≤ x9_2
              · rw [if_pos c7] at H
                have c7b0 : decide (0 ≤ x9_2) = true := decide_eq_true c7
                clear c7
                by_cases c8 : x9_2 < (a0.size : Int)
                · rw [if_pos c8] at H
                  have c8b0 : decide (x9_2 < (a0.size : Int)) = true := decide_eq_true c8
                  clear c8
                  by_cases c10 : (bt a0 x9_2) = 10
                  · rw [if_pos c10] at H
                    have c10b0 : ((bt a0 x9_2) == 10) = true := beq_iff_eq.mpr c10
                    have c10b1 : ((bt a0 x9_2) != 10) = false := bne_eq_false_iff_eq.mpr c10
                    clear c10
                    have H' := Aside0.mk H
                    clear H
                    have p9 : 0 ≤ (x9_2 : Int) := of_decide_eq_true (by first | (with_reducible assumption) | assumption)
                    have q9 : x9_2 < (a0.size : Int) := of_decide_eq_true (by first | (with_reducible assumption) | assumption)
                    have hx9 := bt_at a0 x9_2
                    replace p9 := eq_true p9
                    replace q9 := eq_true q9
                    go_wp2
                    go_roundg k2
                    case measure => have := HJ2.out; have := HK2.out; omega
                    case rel => exact ⟨(wrap64 (x7_2 + 1)), (1), (wrap64 (x9_2 + 1)), (by first | rfl | (simp; done) | (simp [*]; done)), (by first | rfl | (simp; done) | (simp [*]; done)), (by first | rfl | (simp; done) | (simp [*]; done)), H', ⟨by have := HJ2.out; have := HK2.out; omega⟩, by repeat (first | exact Drawn0.refl _ | apply Drawn0.step)⟩
                  · rw [if_neg c10] at H
                    have c10b0 : ((bt a0 x9_2) == 10) = false := beq_eq_false_iff_ne.mpr c10
                    have c10b1 : ((bt a0 x9_2) != 10) = true := bne_iff_ne.mpr c10
                    have H' := Aside0.mk H
                    clear H
                    have p9 : 0 ≤ (x9_2 : Int) := of_decide_eq_true (by first | (with_reducible assumption) | assumption)
                    have q9 : x9_2 < (a0.size : Int) := of_decide_eq_true (by first | (with_reducible assumption) | assumption)
                    have hx9 := bt_at a0 x9_2
                    replace p9 := eq_true p9
                    replace q9 := eq_true q9
                    go_wp2
                    go_roundg k2
                    case measure => have := HJ2.out; have := HK2.out; omega
                    case rel => exact ⟨(x7_2), (wrap64 (x8_2 + 1)), (wrap64 (x9_2 + 1)), (by first | rfl | (simp; done) | (simp [*]; done)), (by first | rfl | (simp; done) | (simp [*]; done)), (by first | rfl | (simp; done) | (simp [*]; done)), H', ⟨by have := HJ2.out; have := HK2.out; omega⟩, by repeat (first | exact Drawn0.refl _ | apply Drawn0.step)⟩
                · rw [if_neg c8] at H
                  exact absurd H (by simp)
              · rw [if_neg c7] at H
                exact absurd H (by simp)
            · rw [if_neg c6] at H
              have c6b0 : decide (x9_2 < a1) = false := decide_eq_false c6
              clear c6
              simp only [Option.some.injEq, Prod.mk.injEq] at H
              obtain ⟨rfl, rfl, rfl⟩ := H
              go_wp2
              go_ret3
              exact ⟨by first | rfl | (simp; done) | (simp [*]; done), by repeat (first | exact Drawn0.refl _ | apply Drawn0.step)⟩

/-! ### entrepotref04_Tell: function 14 -/
def entrepotref04_Tell.f (k : Nat) (a0 : ByteArray) (a1_0 : Int) (a1_1 : Int) : Option (ByteArray) := (entrepotref01_Where.f k a0 a1_0).bind fun bt191 => (if bt191.2.2 = 0 then ((entrepotref04_Num.f k bt191.1).bind fun t194 => (if 5 + t194.size ≤ 9223372036854775807 then (if ((⟨#[108, 105, 110, 101, 32]⟩ : ByteArray) ++ t194).size + 9 ≤ 9223372036854775807 then ((entrepotref04_Num.f k bt191.2.1).bind fun t195 => (if (((⟨#[108, 105, 110, 101, 32]⟩ : ByteArray) ++ t194) ++ (⟨#[44, 32, 99, 111, 108, 117, 109, 110, 32]⟩ : ByteArray)).size + t195.size ≤ 9223372036854775807 then (if ((((⟨#[108, 105, 110, 101, 32]⟩ : ByteArray) ++ t194) ++ (⟨#[44, 32, 99, 111, 108, 117, 109, 110, 32]⟩ : ByteArray)) ++ t195).size + 8 ≤ 9223372036854775807 then ((entrepotref04_Num.f k a1_1).bind fun t196 => (if (((((⟨#[108, 105, 110, 101, 32]⟩ : ByteArray) ++ t194) ++ (⟨#[44, 32, 99, 111, 108, 117, 109, 110, 32]⟩ : ByteArray)) ++ t195) ++ (⟨#[58, 32, 101, 114, 114, 111, 114, 32]⟩ : ByteArray)).size + t196.size ≤ 9223372036854775807 then (some ((((((⟨#[108, 105, 110, 101, 32]⟩ : ByteArray) ++ t194) ++ (⟨#[44, 32, 99, 111, 108, 117, 109, 110, 32]⟩ : ByteArray)) ++ t195) ++ (⟨#[58, 32, 101, 114, 114, 111, 114, 32]⟩ : ByteArray)) ++ t196)) else (none))) else (none)) else (none))) else (none)) else (none))) else ((entrepotref04_Num.f k a1_1).bind fun t197 => (if 6 + t197.size ≤ 9223372036854775807 then (some ((⟨#[101, 114, 114, 111, 114, 32]⟩ : ByteArray) ++ t197)) else (none))))
theorem entrepotref04_Tell.mono : ∀ a0 a1 a2 k, LeO (entrepotref04_Tell.f k a0 a1 a2) (entrepotref04_Tell.f (k + 1) a0 a1 a2) := by
  intro a0 a1 a2 k
  unfold entrepotref04_Tell.f
  repeat' first
      | (with_reducible exact entrepotref01_Where.mono _ _ _)
      | (with_reducible exact entrepotref04_Num.mono _ _)
      | (with_reducible exact LeO.refl _)
      | (with_reducible exact LeO.none _)
      | (with_reducible refine LeO.ite ?_ ?_)
      | (with_reducible refine LeO.bind ?_ (fun _ => ?_))
      | exact entrepotref01_Where.mono _ _ _
      | exact entrepotref04_Num.mono _ _
      | exact LeO.none _
      | refine LeO.ite ?_ ?_
      | refine LeO.bind ?_ (fun _ => ?_)
def entrepotref04_Tell.T4 : Bool × List (List Nat × List Nat) := (true, [([], []), ([0], [0]), ([1], [1]), ([2], [2]), ([], []), ([4, 1], [4]), ([3, 5], [3, 5]), ([6], [6]), ([], []), ([8], [8]), ([9, 5], [9]), ([7, 10], [7, 10]), ([11, 10, 0, 1, 2, 3, 4, 5, 6, 7, 8, 9, 10, 11], [11])])
def entrepotref04_Tell.B4 : List Nat := [0, 1, 3, 7, 0, 19, 63, 127, 0, 256, 819, 2047, 4095]
theorem entrepotref04_Tell.tab4 : rtab .any (opsOf Tryd.f14 4) = entrepotref04_Tell.T4 := by kernel_rfl
theorem entrepotref04_Tell.bits4 : waitsOk entrepotref04_Tell.T4.2 entrepotref04_Tell.B4 = true := by kernel_rfl
set_option maxHeartbeats 8000000 in
set_option maxRecDepth 100000 in
theorem entrepotref04_Tell.calls (k : Nat) (a0 : ByteArray) (a1_0 : Int) (a1_1 : Int) (r : ByteArray) (w : World) (h : entrepotref04_Tell.f k a0 a1_0 a1_1 = some r) :
    Calls Tryd.prog 14 #[.string a0, .agg #[.int .i64 a1_0, .int .i64 a1_1]] w fun e w' => e = .returned (.string r) ∧ Below w.heap.size w w' := by
  have hu25 := Tryd.underlying25
  have HB := Aside0.mk (Below.refl w.heap.size w)
  have H : ((entrepotref01_Where.f k a0 a1_0).bind fun bt191 => (if bt191.2.2 = 0 then ((entrepotref04_Num.f k bt191.1).bind fun t194 => (if 5 + t194.size ≤ 9223372036854775807 then (if ((⟨#[108, 105, 110, 101, 32]⟩ : ByteArray) ++ t194).size + 9 ≤ 9223372036854775807 then ((entrepotref04_Num.f k bt191.2.1).bind fun t195 => (if (((⟨#[108, 105, 110, 101, 32]⟩ : ByteArray) ++ t194) ++ (⟨#[44, 32, 99, 111, 108, 117, 109, 110, 32]⟩ : ByteArray)).size + t195.size ≤ 9223372036854775807 then (if ((((⟨#[108, 105, 110, 101, 32]⟩ : ByteArray) ++ t194) ++ (⟨#[44, 32, 99, 111, 108, 117, 109, 110, 32]⟩ : ByteArray)) ++ t195).size + 8 ≤ 9223372036854775807 then ((entrepotref04_Num.f k a1_1).bind fun t196 => (if (((((⟨#[108, 105, 110, 101, 32]⟩ : ByteArray) ++ t194) ++ (⟨#[44, 32, 99, 111, 108, 117, 109, 110, 32]⟩ : ByteArray)) ++ t195) ++ (⟨#[58, 32, 101, 114, 114, 111, 114, 32]⟩ : ByteArray)).size + t196.size ≤ 9223372036854775807 then (some ((((((⟨#[108, 105, 110, 101, 32]⟩ : ByteArray) ++ t194) ++ (⟨#[44, 32, 99, 111, 108, 117, 109, 110, 32]⟩ : ByteArray)) ++ t195) ++ (⟨#[58, 32, 101, 114, 114, 111, 114, 32]⟩ : ByteArray)) ++ t196)) else (none))) else (none)) else (none))) else (none)) else (none))) else ((entrepotref04_Num.f k a1_1).bind fun t197 => (if 6 + t197.size ≤ 9223372036854775807 then (some ((⟨#[101, 114, 114, 111, 114, 32]⟩ : ByteArray) ++ t197)) else (none))))) = some r := h
  clear h
  replace H := Option.bind_eq_some_iff.mp H
  obtain ⟨⟨t191, t192, t193⟩, A30, H⟩ := H
  replace H : (if t193 = 0 then ((entrepotref04_Num.f k t191).bind fun t194 => (if 5 + t194.size ≤ 9223372036854775807 then (if ((⟨#[108, 105, 110, 101, 32]⟩ : ByteArray) ++ t194).size + 9 ≤ 9223372036854775807 then ((entrepotref04_Num.f k t192).bind fun t195 => (if (((⟨#[108, 105, 110, 101, 32]⟩ : ByteArray) ++ t194) ++ (⟨#[44, 32, 99, 111, 108, 117, 109, 110, 32]⟩ : ByteArray)).size + t195.size ≤ 9223372036854775807 then (if ((((⟨#[108, 105, 110, 101, 32]⟩ : ByteArray) ++ t194) ++ (⟨#[44, 32, 99, 111, 108, 117, 109, 110, 32]⟩ : ByteArray)) ++ t195).size + 8 ≤ 9223372036854775807 then ((entrepotref04_Num.f k a1_1).bind fun t196 => (if (((((⟨#[108, 105, 110, 101, 32]⟩ : ByteArray) ++ t194) ++ (⟨#[44, 32, 99, 111, 108, 117, 109, 110, 32]⟩ : ByteArray)) ++ t195) ++ (⟨#[58, 32, 101, 114, 114, 111, 114, 32]⟩ : ByteArray)).size + t196.size ≤ 9223372036854775807 then (some ((((((⟨#[108, 105, 110, 101, 32]⟩ : ByteArray) ++ t194) ++ (⟨#[44, 32, 99, 111, 108, 117, 109, 110, 32]⟩ : ByteArray)) ++ t195) ++ (⟨#[58, 32, 101, 114, 114, 111, 114, 32]⟩ : ByteArray)) ++ t196)) else (none))) else (none)) else (none))) else (none)) else (none))) else ((entrepotref04_Num.f k a1_1).bind fun t197 => (if 6 + t197.size ≤ 9223372036854775807 then (some ((⟨#[101, 114, 114, 111, 114, 32]⟩ : ByteArray) ++ t197)) else (none)))) = some r := H
  have A3 := Aside0.mk A30
  clear A30
  by_cases c4 : t193 = 0
  · rw [if_pos c4] at H
    have c4b0 : (t193 == 0) = true := beq_iff_eq.mpr c4
    have c4b1 : (t193 != 0) = false := bne_eq_false_iff_eq.mpr c4
    clear c4
    replace H := Option.bind_eq_some_iff.mp H
    obtain ⟨t194, A50, H⟩ := H
    replace H : (if 5 + t194.size ≤ 9223372036854775807 then (if ((⟨#[108, 105, 110, 101, 32]⟩ : ByteArray) ++ t194).size + 9 ≤ 9223372036854775807 then ((entrepotref04_Num.f k t192).bind fun t195 => (if (((⟨#[108, 105, 110, 101, 32]⟩ : ByteArray) ++ t194) ++ (⟨#[44, 32, 99, 111, 108, 117, 109, 110, 32]⟩ : ByteArray)).size + t195.size ≤ 9223372036854775807 then (if ((((⟨#[108, 105, 110, 101, 32]⟩ : ByteArray) ++ t194) ++ (⟨#[44, 32, 99, 111, 108, 117, 109, 110, 32]⟩ : ByteArray)) ++ t195).size + 8 ≤ 9223372036854775807 then ((entrepotref04_Num.f k a1_1).bind fun t196 => (if (((((⟨#[108, 105, 110, 101, 32]⟩ : ByteArray) ++ t194) ++ (⟨#[44, 32, 99, 111, 108, 117, 109, 110, 32]⟩ : ByteArray)) ++ t195) ++ (⟨#[58, 32, 101, 114, 114, 111, 114, 32]⟩ : ByteArray)).size + t196.size ≤ 9223372036854775807 then (some ((((((⟨#[108, 105, 110, 101, 32]⟩ : ByteArray) ++ t194) ++ (⟨#[44, 32, 99, 111, 108, 117, 109, 110, 32]⟩ : ByteArray)) ++ t195) ++ (⟨#[58, 32, 101, 114, 114, 111, 114, 32]⟩ : ByteArray)) ++ t196)) else (none))) else (none)) else (none))) else (none)) else (none)) = some r := H
    have A5 := Aside0.mk A50
    clear A50
    by_cases c6 : 5 + t194.size ≤ 9223372036854775807
    · rw [if_pos c6] at H
      have c6b0 := eq_true c6
      have c6b1 : decide (5 + t194.size ≤ 9223372036854775807) = true := decide_eq_true c6
      try have c6b2 : (9223372036854775807 < 5 + t194.size) = False := eq_false (Nat.not_lt.2 c6)
      by_cases c7 : ((⟨#[108, 105, 110, 101, 32]⟩ : ByteArray) ++ t194).size + 9 ≤ 9223372036854775807
      · rw [if_pos c7] at H
        have c7b0 := eq_true c7
        have c7b1 : decide (((⟨#[108, 105, 110, 101, 32]⟩ : ByteArray) ++ t194).size + 9 ≤ 9223372036854775807) = true := decide_eq_true c7
        try have c7b2 : (9223372036854775807 < ((⟨#[108, 105, 110, 101, 32]⟩ : ByteArray) ++ t194).size + 9) = False := eq_false (Nat.not_lt.2 c7)
        try have c7b4 : (9223372036854775807 < 5 + t194.size + 9) = False := eq_false (by have h_ := c7; simp only [ByteArray.size_append] at h_; have e0_ : (⟨#[108, 105, 110, 101, 32]⟩ : ByteArray).size = 5 := rfl; omega)
        replace H := Option.bind_eq_some_iff.mp H
        obtain ⟨t195, A80, H⟩ := H
        replace H : (if (((⟨#[108, 105, 110, 101, 32]⟩ : ByteArray) ++ t194) ++ (⟨#[44, 32, 99, 111, 108, 117, 109, 110, 32]⟩ : ByteArray)).size + t195.size ≤ 9223372036854775807 then (if ((((⟨#[108, 105, 110, 101, 32]⟩ : ByteArray) ++ t194) ++ (⟨#[44, 32, 99, 111, 108, 117, 109, 110, 32]⟩ : ByteArray)) ++ t195).size + 8 ≤ 9223372036854775807 then ((entrepotref04_Num.f k a1_1).bind fun t196 => (if (((((⟨#[108, 105, 110, 101, 32]⟩ : ByteArray) ++ t194) ++ (⟨#[44, 32, 99, 111, 108, 117, 109, 110, 32]⟩ : ByteArray)) ++ t195) ++ (⟨#[58, 32, 101, 114, 114, 111, 114, 32]⟩ : ByteArray)).size + t196.size ≤ 9223372036854775807 then (some ((((((⟨#[108, 105, 110, 101, 32]⟩ : ByteArray) ++ t194) ++ (⟨#[44, 32, 99, 111, 108, 117, 109, 110, 32]⟩ : ByteArray)) ++ t195) ++ (⟨#[58, 32, 101, 114, 114, 111, 114, 32]⟩ : ByteArray)) ++ t196)) else (none))) else (none)) else (none)) = some r := H
        have A8 := Aside0.mk A80
        clear A80
        by_cases c9 : (((⟨#[108, 105, 110, 101, 32]⟩ : ByteArray) ++ t194) ++ (⟨#[44, 32, 99, 111, 108, 117, 109, 110, 32]⟩ : ByteArray)).size + t195.size ≤ 9223372036854775807
        · rw [if_pos c9] at H
          have c9b0 := eq_true c9
          have c9b1 : decide ((((⟨#[108, 105, 110, 101, 32]⟩ : ByteArray) ++ t194) ++ (⟨#[44, 32, 99, 111, 108, 117, 109, 110, 32]⟩ : ByteArray)).size + t195.size ≤ 9223372036854775807) = true := decide_eq_true c9
          try have c9b2 : (9223372036854775807 < (((⟨#[108, 105, 110, 101, 32]⟩ : ByteArray) ++ t194) ++ (⟨#[44, 32, 99, 111, 108, 117, 109, 110, 32]⟩ : ByteArray)).size + t195.size) = False := eq_false (Nat.not_lt.2 c9)
          try have c9b4 : (9223372036854775807 < 5 + t194.size + 9 + t195.size) = False := eq_false (by have h_ := c9; simp only [ByteArray.size_append] at h_; have e0_ : (⟨#[108, 105, 110, 101, 32]⟩ : ByteArray).size = 5 := rfl; have e1_ : (⟨#[44, 32, 99, 111, 108, 117, 109, 110, 32]⟩ : ByteArray).size = 9 := rfl; omega)
          by_cases c10 : ((((⟨#[108, 105, 110, 101, 32]⟩ : ByteArray) ++ t194) ++ (⟨#[44, 32, 99, 111, 108, 117, 109, 110, 32]⟩ : ByteArray)) ++ t195).size + 8 ≤ 9223372036854775807
          · rw [if_pos c10] at H
            have c10b0 := eq_true c10
            have c10b1 : decide (((((⟨#[108, 105, 110, 101, 32]⟩ : ByteArray) ++ t194) ++ (⟨#[44, 32, 99, 111, 108, 117, 109, 110, 32]⟩ : ByteArray)) ++ t195).size + 8 ≤ 9223372036854775807) = true := decide_eq_true c10
            try have c10b2 : (9223372036854775807 < ((((⟨#[108, 105, 110, 101, 32]⟩ : ByteArray) ++ t194) ++ (⟨#[44, 32, 99, 111, 108, 117, 109, 110, 32]⟩ : ByteArray)) ++ t195).size + 8) = False := eq_false (Nat.not_lt.2 c10)
            try have c10b4 : (9223372036854775807 < 5 + t194.size + 9 + t195.size + 8) = False := eq_false (by have h_ := c10; simp only [ByteArray.size_append] at h_; have e0_ : (⟨#[108, 105, 110, 101, 32]⟩ : ByteArray).size = 5 := rfl; have e1_ : (⟨#[44, 32, 99, 111, 108, 117, 109, 110, 32]⟩ : ByteArray).size = 9 := rfl; omega)
            replace H := Option.bind_eq_some_iff.mp H
            obtain ⟨t196, A110, H⟩ := H
            replace H : (if (((((⟨#[108, 105, 110, 101, 32]⟩ : ByteArray) ++ t194) ++ (⟨#[44, 32, 99, 111, 108, 117, 109, 110, 32]⟩ : ByteArray)) ++ t195) ++ (⟨#[58, 32, 101, 114, 114, 111, 114, 32]⟩ : ByteArray)).size + t196.size ≤ 9223372036854775807 then (some ((((((⟨#[108, 105, 110, 101, 32]⟩ : ByteArray) ++ t194) ++ (⟨#[44, 32, 99, 111, 108, 117, 109, 110, 32]⟩ : ByteArray)) ++ t195) ++ (⟨#[58, 32, 101, 114, 114, 111, 114, 32]⟩ : ByteArray)) ++ t196)) else (none)) = some r := H
            have A11 := Aside0.mk A110
            clear A110
            by_cases c12 : (((((⟨#[108, 105, 110, 101, 32]⟩ : ByteArray) ++ t194) ++ (⟨#[44, 32, 99, 111, 108, 117, 109, 110, 32]⟩ : ByteArray)) ++ t195) ++ (⟨#[58, 32, 101, 114, 114, 111, 114, 32]⟩ : ByteArray)).size + t196.size ≤ 9223372036854775807
            · rw [if_pos c12] at H
              have c12b0 := eq_true c12
              have c12b1 : decide ((((((⟨#[108, 105, 110, 101, 32]⟩ : ByteArray) ++ t194) ++ (⟨#[44, 32, 99, 111, 108, 117, 109, 110, 32]⟩ : ByteArray)) ++ t195) ++ (⟨#[58, 32, 101, 114, 114, 111, 114, 32]⟩ : ByteArray)).size + t196.size ≤ 9223372036854775807) = true := decide_eq_true c12
              try have c12b2 : (9223372036854775807 < (((((⟨#[108, 105, 110, 101, 32]⟩ : ByteArray) ++ t194) ++ (⟨#[44, 32, 99, 111, 108, 117, 109, 110, 32]⟩ : ByteArray)) ++ t195) ++ (⟨#[58, 32, 101, 114, 114, 111, 114, 32]⟩ : ByteArray)).size + t196.size) = False := eq_false (Nat.not_lt.2 c12)
              try have c12b4 : (9223372036854775807 < 5 + t194.size + 9 + t195.size + 8 + t196.size) = False := eq_false (by have h_ := c12; simp only [ByteArray.size_append] at h_; have e0_ : (⟨#[108, 105, 110, 101, 32]⟩ : ByteArray).size = 5 := rfl; have e1_ : (⟨#[44, 32, 99, 111, 108, 117, 109, 110, 32]⟩ : ByteArray).size = 9 := rfl; have e2_ : (⟨#[58, 32, 101, 114, 114, 111, 114, 32]⟩ : ByteArray).size = 8 := rfl; omega)
              obtain rfl := Option.some.inj H
              go_enter Tryd.func14, Tryd.ntmps14
              try go_wp2_with (first | ((with_reducible refine gate_dst (N := 3) rfl ?_); refine box_event ?hg (N := 3) ?hd (cs := #[.int .i64 a1_0, .int .i64 a1_1]) (t := 25) ?hr ?_; (case hd => rfl); (case hg => rfl); (case hr => first | (go_simp; done) | (go_simp; rfl)); intro gb190 hg w13 hbox hb; have n0_ := Aside0.mk (below_step (by repeat (first | (with_reducible first | exact HB.out | apply below_alloc | apply pw_below_drewN | apply below_drew1) | exact HB.out)) hb); have n1_ := Aside0.mk (hbox); have n2_ := Aside0.mk ((by rw [hg]; exact (below_size (by repeat (first | (with_reducible first | exact HB.out | apply below_alloc | apply pw_below_drewN | apply below_drew1) | exact HB.out))) : w.heap.size ≤ gb190)); have n3_ := Aside0.mk ((by rw [hg]; exact (below_size (by repeat (first | (with_reducible first | exact HB.out | apply below_alloc | apply pw_below_drewN | apply below_drew1) | exact HB.out))) : w.heap.size ≤ gb190)); clear HB; have HB := n0_; have BK190 := n1_; have GW190 := n2_; have GE190 := n3_; clear n0_ n1_ n2_ n3_; clear hb hbox hg; have hcz14_0 : w13.cell? ⟨gb190, 0, none⟩ = some (.int .i64 a1_0) := (blk_cell BK190.out 0).trans rfl; have hcz14_1 : w13.cell? ⟨gb190, 1, none⟩ = some (.int .i64 a1_1) := (blk_cell BK190.out 1).trans rfl; have hfz14_0 := blk_frozen BK190.out 0; have hfz14_1 := blk_frozen BK190.out 1) | ((with_reducible refine gate_callee (f := 29) rfl ?_); refine goesL_ (some 12) rfl rfl Tryd.func29 (by kernel_rfl) rfl #[.string a0, .int .i64 a1_0] rfl (by (try simp only [List.map_toArray, List.map_cons, List.map_nil]); first | done | rfl | (simp only [List.length_drop, List.length_take]; rfl)) ?_; (with_reducible refine (entrepotref01_Where.calls k a0 a1_0 t191 t192 t193 _ A3.out).mono ?_); rintro e w' ⟨rfl, ⟨nd, rfl⟩⟩; refine ⟨_, rfl, ?_⟩))
              (try (rw [drewN_self w13]; generalize hq_ : World.drewN w13 _ = w13; have n0_ : Aside0 (w13.heap[gb190]? = some (.cells #[.int .i64 a1_0, .int .i64 a1_1] 25 (0, 0))) := ⟨by rw [← hq_]; exact (by (with_reducible repeat (first | refine blk_drewN ?_ _ | refine blk_drew ?_ | refine blk_alloc ?_ _)); exact BK190.out)⟩; have n1_ : Aside0 (Below w.heap.size w w13) := ⟨by rw [← hq_]; exact (by repeat (first | (with_reducible first | exact HB.out | apply below_alloc | apply pw_below_drewN | apply below_drew1 | refine below_set ?_ GE190.out) | exact HB.out))⟩; clear BK190 HB hq_; have BK190 := n0_; have HB := n1_; clear n0_ n1_))
              have n0_ := Aside0.mk (blk_drew BK190.out)
              have n1_ := Aside0.mk (below_drew1 HB.out)
              clear BK190
              clear HB
              have BK190 := n0_
              have HB := n1_
              clear n0_ n1_
              refine start_ (n := 13) (S := fun w' => w'.cell? ⟨gb190, 0, none⟩ = some (.int .i64 a1_0) ∧ w'.cell? ⟨gb190, 1, none⟩ = some (.int .i64 a1_1)) (ds := []) #[false, false, false, false, false, false, false, false, false, false, false, false, false] (by kernel_rfl) rfl rfl ⟨(blk_cell BK190.out 0).trans rfl, (blk_cell BK190.out 1).trans rfl⟩ (fun hHeld => ?_); refine with_tabW entrepotref04_Tell.tab4 entrepotref04_Tell.bits4 (fun HT_ HW_ => ?_)
              generalize w13.drew = w15 at BK190 HB hHeld ⊢
              refine pure_ (i := 0) (N := some 22) (v := ?_) (a' := ?_) #[true, false, false, false, false, false, false, false, false, false, false, false, false] rfl rfl (any_of HT_.out (by kernel_rfl)) (fun _ _ _ h => h) (Or.inl ⟨by rfl, ?_⟩) ?_ ?_
              rotate_left
              · intro w'
                go_simp
                with_reducible rfl
              rotate_left
              · simp only [Act.put, List.setIfInBounds_toArray, List.set_cons_zero, List.set_cons_succ, i64_w, i32_w]
                rfl
              refine pure_ (i := 4) (N := some 26) (v := ?_) (a' := ?_) #[true, false, false, false, true, false, false, false, false, false, false, false, false] rfl rfl (any_of HT_.out (by kernel_rfl)) (fun _ _ _ h => h) (Or.inl ⟨by rfl, ?_⟩) ?_ ?_
              rotate_left
              · intro w'
                go_simp
                with_reducible rfl
              rotate_left
              · simp only [Act.put, List.setIfInBounds_toArray, List.set_cons_zero, List.set_cons_succ, i64_w, i32_w]
                rfl
              refine pure_ (i := 8) (N := some 30) (v := ?_) (a' := ?_) #[true, false, false, false, true, false, false, false, true, false, false, false, false] rfl rfl (any_of HT_.out (by kernel_rfl)) (fun _ _ _ h => h) (Or.inl ⟨by rfl, ?_⟩) ?_ ?_
              rotate_left
              · intro w'
                go_simp
                with_reducible rfl
              rotate_left
              · simp only [Act.put, List.setIfInBounds_toArray, List.set_cons_zero, List.set_cons_succ, i64_w, i32_w]
                rfl
              refine take_ (i := 9) (N := some 31) (v := ?_) (a' := ?_) #[true, false, false, false, true, false, false, false, true, true, false, false, false] rfl rfl (take_ofW HT_.out HW_.out (by kernel_rfl)) (fun _ _ _ h => h) (Or.inl ⟨by rfl, ?_⟩) hHeld ?_ ?_
              rotate_left
              · rintro w' ⟨s0, s1⟩
                go_simp
                with_reducible rfl
              rotate_left
              · simp only [Act.put, List.setIfInBounds_toArray, List.set_cons_zero, List.set_cons_succ, i64_w, i32_w]
                rfl
              refine one_ (i := 1) (N := some 23) #[true, true, false, false, true, false, false, false, true, true, false, false, false] rfl rfl (one_of HT_.out (by kernel_rfl)) (by decide) (fun K hK => ?_)
              refine goes_ Tryd.func15 (by kernel_rfl) rfl #[.int .i64 t191] (by rfl) rfl rfl (by (try simp only [List.map_toArray, List.map_cons, List.map_nil]); first | done | rfl | (simp only [List.length_drop, List.length_take]; rfl)) ?_
              with_reducible refine (entrepotref04_Num.calls k t191 t194 _ A5.out).mono ?_
              rintro e w16 ⟨rfl, hb⟩
              refine ⟨_, rfl, ?_⟩
              have n0_ := Aside0.mk (blk_below (g := gb190) (o := .cells #[.int .i64 a1_0, .int .i64 a1_1] 25 (0, 0)) (by (with_reducible repeat (first | refine blk_drewN ?_ _ | refine blk_drew ?_ | refine blk_alloc ?_ _)); exact BK190.out) hb)
              have n1_ := Aside0.mk (below_step (by repeat (first | (with_reducible first | exact HB.out | apply below_alloc | apply pw_below_drewN | apply below_drew1 | refine below_set ?_ GE190.out) | exact HB.out)) hb)
              clear BK190
              clear HB
              have BK190 := n0_
              have HB := n1_
              clear n0_ n1_
              (try clear hb)
              (try clear hb2)
              (try clear hk)
              (try clear hi)
              refine hK.out _ _ ⟨(blk_cell BK190.out 0).trans rfl, (blk_cell BK190.out 1).trans rfl⟩ (fun hHeld => ?_)
              clear hK K
              refine norm_ (a' := ?_) ?_ ?_
              rotate_left
              · show Act.put _ (some 23) _ = _
                simp only [Act.put, List.setIfInBounds_toArray, List.set_cons_zero, List.set_cons_succ, i64_w, i32_w]
                rfl
              refine pure_ (i := 2) (N := some 24) (v := ?_) (a' := ?_) #[true, true, true, false, true, false, false, false, true, true, false, false, false] rfl rfl (any_of HT_.out (by kernel_rfl)) (fun _ _ _ h => h) (Or.inl ⟨by rfl, ?_⟩) ?_ ?_
              rotate_left
              · intro w'
                go_simp
                with_reducible rfl
              rotate_left
              · simp only [Act.put, List.setIfInBounds_toArray, List.set_cons_zero, List.set_cons_succ, i64_w, i32_w]
                rfl
              refine pure_ (i := 3) (N := some 25) (v := ?_) (a' := ?_) #[true, true, true, true, true, false, false, false, true, true, false, false, false] rfl rfl (any_of HT_.out (by kernel_rfl)) (fun _ _ _ h => h) (Or.inl ⟨by rfl, ?_⟩) ?_ ?_
              rotate_left
              · intro w'
                go_simp
                with_reducible rfl
              rotate_left
              · simp only [Act.put, List.setIfInBounds_toArray, List.set_cons_zero, List.set_cons_succ, i64_w, i32_w]
                rfl
              refine one_ (i := 5) (N := some 27) #[true, true, true, true, true, true, false, false, true, true, false, false, false] rfl rfl (one_of HT_.out (by kernel_rfl)) (by decide) (fun K hK => ?_)
              refine goes_ Tryd.func15 (by kernel_rfl) rfl #[.int .i64 t192] (by rfl) rfl rfl (by (try simp only [List.map_toArray, List.map_cons, List.map_nil]); first | done | rfl | (simp only [List.length_drop, List.length_take]; rfl)) ?_
              with_reducible refine (entrepotref04_Num.calls k t192 t195 _ A8.out).mono ?_
              rintro e w17 ⟨rfl, hb⟩
              refine ⟨_, rfl, ?_⟩
              have n0_ := Aside0.mk (blk_below (g := gb190) (o := .cells #[.int .i64 a1_0, .int .i64 a1_1] 25 (0, 0)) (by (with_reducible repeat (first | refine blk_drewN ?_ _ | refine blk_drew ?_ | refine blk_alloc ?_ _)); exact BK190.out) hb)
              have n1_ := Aside0.mk (below_step (by repeat (first | (with_reducible first | exact HB.out | apply below_alloc | apply pw_below_drewN | apply below_drew1 | refine below_set ?_ GE190.out) | exact HB.out)) hb)
              clear BK190
              clear HB
              have BK190 := n0_
              have HB := n1_
              clear n0_ n1_
              (try clear hb)
              (try clear hb2)
              (try clear hk)
              (try clear hi)
              refine hK.out _ _ ⟨(blk_cell BK190.out 0).trans rfl, (blk_cell BK190.out 1).trans rfl⟩ (fun hHeld => ?_)
              clear hK K
              refine norm_ (a' := ?_) ?_ ?_
              rotate_left
              · show Act.put _ (some 27) _ = _
                simp only [Act.put, List.setIfInBounds_toArray, List.set_cons_zero, List.set_cons_succ, i64_w, i32_w]
                rfl
              refine pure_ (i := 6) (N := some 28) (v := ?_) (a' := ?_) #[true, true, true, true, true, true, true, false, true, true, false, false, false] rfl rfl (any_of HT_.out (by kernel_rfl)) (fun _ _ _ h => h) (Or.inl ⟨by rfl, ?_⟩) ?_ ?_
              rotate_left
              · intro w'
                go_simp
                with_reducible rfl
              rotate_left
              · simp only [Act.put, List.setIfInBounds_toArray, List.set_cons_zero, List.set_cons_succ, i64_w, i32_w]
                rfl
              refine pure_ (i := 7) (N := some 29) (v := ?_) (a' := ?_) #[true, true, true, true, true, true, true, true, true, true, false, false, false] rfl rfl (any_of HT_.out (by kernel_rfl)) (fun _ _ _ h => h) (Or.inl ⟨by rfl, ?_⟩) ?_ ?_
              rotate_left
              · intro w'
                go_simp
                with_reducible rfl
              rotate_left
              · simp only [Act.put, List.setIfInBounds_toArray, List.set_cons_zero, List.set_cons_succ, i64_w, i32_w]
                rfl
              refine one_ (i := 10) (N := some 32) #[true, true, true, true, true, true, true, true, true, true, true, false, false] rfl rfl (one_of HT_.out (by kernel_rfl)) (by decide) (fun K hK => ?_)
              refine goes_ Tryd.func15 (by kernel_rfl) rfl #[.int .i64 a1_1] (by rfl) rfl rfl (by (try simp only [List.map_toArray, List.map_cons, List.map_nil]); first | done | rfl | (simp only [List.length_drop, List.length_take]; rfl)) ?_
              with_reducible refine (entrepotref04_Num.calls k a1_1 t196 _ A11.out).mono ?_
              rintro e w18 ⟨rfl, hb⟩
              refine ⟨_, rfl, ?_⟩
              have n0_ := Aside0.mk (blk_below (g := gb190) (o := .cells #[.int .i64 a1_0, .int .i64 a1_1] 25 (0, 0)) (by (with_reducible repeat (first | refine blk_drewN ?_ _ | refine blk_drew ?_ | refine blk_alloc ?_ _)); exact BK190.out) hb)
              have n1_ := Aside0.mk (below_step (by repeat (first | (with_reducible first | exact HB.out | apply below_alloc | apply pw_below_drewN | apply below_drew1 | refine below_set ?_ GE190.out) | exact HB.out)) hb)
              clear BK190
              clear HB
              have BK190 := n0_
              have HB := n1_
              clear n0_ n1_
              (try clear hb)
              (try clear hb2)
              (try clear hk)
              (try clear hi)
              refine hK.out _ _ ⟨(blk_cell BK190.out 0).trans rfl, (blk_cell BK190.out 1).trans rfl⟩ (fun hHeld => ?_)
              clear hK K
              refine norm_ (a' := ?_) ?_ ?_
              rotate_left
              · show Act.put _ (some 32) _ = _
                simp only [Act.put, List.setIfInBounds_toArray, List.set_cons_zero, List.set_cons_succ, i64_w, i32_w]
                rfl
              refine pure_ (i := 11) (N := some 33) (v := ?_) (a' := ?_) #[true, true, true, true, true, true, true, true, true, true, true, true, false] rfl rfl (any_of HT_.out (by kernel_rfl)) (fun _ _ _ h => h) (Or.inl ⟨by rfl, ?_⟩) ?_ ?_
              rotate_left
              · intro w'
                go_simp
                with_reducible rfl
              rotate_left
              · simp only [Act.put, List.setIfInBounds_toArray, List.set_cons_zero, List.set_cons_succ, i64_w, i32_w]
                rfl
              refine pure_ (i := 12) (N := some 4) (v := ?_) (a' := ?_) #[true, true, true, true, true, true, true, true, true, true, true, true, true] rfl rfl (any_of HT_.out (by kernel_rfl)) (fun _ _ _ h => h) (Or.inl ⟨by rfl, ?_⟩) ?_ ?_
              rotate_left
              · intro w'
                go_simp
                with_reducible rfl
              rotate_left
              · simp only [Act.put, List.setIfInBounds_toArray, List.set_cons_zero, List.set_cons_succ, i64_w, i32_w]
                rfl
              refine done_ (done_of HT_.out (by kernel_rfl)) ?_
              try go_wp2
              go_ret
              exact ⟨by first | rfl | (simp [errW_none, errW_some] <;> rfl) | (simp [*, errW_none, errW_some] <;> rfl), by repeat (first | (with_reducible first | exact HB.out | apply below_alloc | apply pw_below_drewN | apply below_drew1 | refine below_set ?_ GE190.out) | exact HB.out)⟩
            · rw [if_neg c12] at H
              exact absurd H (by simp)
          · rw [if_neg c10] at H
            exact absurd H (by simp)
        · rw [if_neg c9] at H
          exact absurd H (by simp)
      · rw [if_neg c7] at H
        exact absurd H (by simp)
    · rw [if_neg c6] at H
      exact absurd H (by simp)
  · rw [if_neg c4] at H
    have c4b0 : (t193 == 0) = false := beq_eq_false_iff_ne.mpr c4
    have c4b1 : (t193 != 0) = true := bne_iff_ne.mpr c4
    replace H := Option.bind_eq_some_iff.mp H
    obtain ⟨t197, A190, H⟩ := H
    replace H : (if 6 + t197.size ≤ 9223372036854775807 then (some ((⟨#[101, 114, 114, 111, 114, 32]⟩ : ByteArray) ++ t197)) else (none)) = some r := H
    have A19 := Aside0.mk A190
    clear A190
    by_cases c20 : 6 + t197.size ≤ 9223372036854775807
    · rw [if_pos c20] at H
      have c20b0 := eq_true c20
      have c20b1 : decide (6 + t197.size ≤ 9223372036854775807) = true := decide_eq_true c20
      try have c20b2 : (9223372036854775807 < 6 + t197.size) = False := eq_false (Nat.not_lt.2 c20)
      obtain rfl := Option.some.inj H
      go_enter Tryd.func14, Tryd.ntmps14
      go_wp2_with (first | ((with_reducible refine gate_dst (N := 3) rfl ?_); refine box_event ?hg (N := 3) ?hd (cs := #[.int .i64 a1_0, .int .i64 a1_1]) (t := 25) ?hr ?_; (case hd => rfl); (case hg => rfl); (case hr => first | (go_simp; done) | (go_simp; rfl)); intro gb190 hg w21 hbox hb; have n0_ := Aside0.mk (below_step (by repeat (first | (with_reducible first | exact HB.out | apply below_alloc | apply pw_below_drewN | apply below_drew1) | exact HB.out)) hb); have n1_ := Aside0.mk (hbox); have n2_ := Aside0.mk ((by rw [hg]; exact (below_size (by repeat (first | (with_reducible first | exact HB.out | apply below_alloc | apply pw_below_drewN | apply below_drew1) | exact HB.out))) : w.heap.size ≤ gb190)); have n3_ := Aside0.mk ((by rw [hg]; exact (below_size (by repeat (first | (with_reducible first | exact HB.out | apply below_alloc | apply pw_below_drewN | apply below_drew1) | exact HB.out))) : w.heap.size ≤ gb190)); clear HB; have HB := n0_; have BK190 := n1_; have GW190 := n2_; have GE190 := n3_; clear n0_ n1_ n2_ n3_; clear hb hbox hg; have hcz22_0 : w21.cell? ⟨gb190, 0, none⟩ = some (.int .i64 a1_0) := (blk_cell BK190.out 0).trans rfl; have hcz22_1 : w21.cell? ⟨gb190, 1, none⟩ = some (.int .i64 a1_1) := (blk_cell BK190.out 1).trans rfl; have hfz22_0 := blk_frozen BK190.out 0; have hfz22_1 := blk_frozen BK190.out 1) | ((with_reducible refine gate_callee (f := 29) rfl ?_); refine goesL_ (some 12) rfl rfl Tryd.func29 (by kernel_rfl) rfl #[.string a0, .int .i64 a1_0] rfl (by (try simp only [List.map_toArray, List.map_cons, List.map_nil]); first | done | rfl | (simp only [List.length_drop, List.length_take]; rfl)) ?_; (with_reducible refine (entrepotref01_Where.calls k a0 a1_0 t191 t192 t193 _ A3.out).mono ?_); rintro e w' ⟨rfl, ⟨nd, rfl⟩⟩; refine ⟨_, rfl, ?_⟩) | ((with_reducible refine gate_callee (f := 15) rfl ?_); refine goesL_ (some 20) rfl rfl Tryd.func15 (by kernel_rfl) rfl #[.int .i64 a1_1] rfl (by (try simp only [List.map_toArray, List.map_cons, List.map_nil]); first | done | rfl | (simp only [List.length_drop, List.length_take]; rfl)) ?_; (with_reducible refine (entrepotref04_Num.calls k a1_1 t197 _ A19.out).mono ?_); rintro e w23 ⟨rfl, hb⟩; refine ⟨_, rfl, ?_⟩; have n0_ := Aside0.mk (blk_below (g := gb190) (o := .cells #[.int .i64 a1_0, .int .i64 a1_1] 25 (0, 0)) (by (with_reducible repeat (first | refine blk_drewN ?_ _ | refine blk_drew ?_ | refine blk_alloc ?_ _)); exact BK190.out) hb); have n1_ := Aside0.mk (below_step (by repeat (first | (with_reducible first | exact HB.out | apply below_alloc | apply pw_below_drewN | apply below_drew1 | refine below_set ?_ GE190.out) | exact HB.out)) hb); clear BK190; clear HB; have BK190 := n0_; have HB := n1_; clear n0_ n1_; (try clear hb); (try clear hb2); (try clear hk); (try clear hi)))
      go_ret
      exact ⟨by first | rfl | (simp [errW_none, errW_some] <;> rfl) | (simp [*, errW_none, errW_some] <;> rfl), by repeat (first | (with_reducible first | exact HB.out | apply below_alloc | apply pw_below_drewN | apply below_drew1 | refine below_set ?_ GE190.out) | exact HB.out)⟩
    · rw [if_neg c20] at H
      exact absurd H (by simp)

/-! ### entrepotlaw04_DiagTells: function 4 -/
def entrepotlaw04_DiagTells.j0 : Nat → ByteArray → Bool → Int → Int → Option (Bool)
  | 0, _, _, _, _ => none
  | k + 1, x0, x11, x199000, x199001 => if x11 = true then ((entrepotlaw04_shown.f k).bind fun t200 => (some t200)) else ((diag_Tell.f x0 x199000 x199001).bind fun t201 => ((entrepotref04_Tell.f k x0 x199000 x199001).bind fun t202 => (some (t201.toList == t202.toList))))
def entrepotlaw04_DiagTells.f (k : Nat) (a0 : ByteArray) (a1_0 : Int) (a1_1 : Int) : Option (Bool) := if (a0.size : Int) > 1000 then (entrepotlaw04_DiagTells.j0 k a0 true a1_0 a1_1) else ((entrepotlaw04_shown.f k).bind fun t199 => (entrepotlaw04_DiagTells.j0 k a0 (!t199) a1_0 a1_1))
theorem entrepotlaw04_DiagTells.mono_l : ∀ k, (∀ y0 y1 y2 y3, LeO (entrepotlaw04_DiagTells.j0 k y0 y1 y2 y3) (entrepotlaw04_DiagTells.j0 (k + 1) y0 y1 y2 y3))
  | 0 => fun _ _ _ _ r h => by simp [entrepotlaw04_DiagTells.j0] at h
  | k + 1 => by
    have ih0 := entrepotlaw04_DiagTells.mono_l k
    · intro y0 y1 y2 y3
      unfold entrepotlaw04_DiagTells.j0
      repeat' first
      | (with_reducible exact ih0 _ _ _ _)
      | (with_reducible exact entrepotlaw04_shown.mono _)
      | (with_reducible exact entrepotref04_Tell.mono _ _ _ _)
      | (with_reducible exact LeO.refl _)
      | (with_reducible exact LeO.none _)
      | (with_reducible refine LeO.ite ?_ ?_)
      | (with_reducible refine LeO.bind ?_ (fun _ => ?_))
      | exact ih0 _ _ _ _
      | exact entrepotlaw04_shown.mono _
      | exact entrepotref04_Tell.mono _ _ _ _
      | exact LeO.none _
      | refine LeO.ite ?_ ?_
      | refine LeO.bind ?_ (fun _ => ?_)
theorem entrepotlaw04_DiagTells.mono : ∀ a0 a1 a2 k, LeO (entrepotlaw04_DiagTells.f k a0 a1 a2) (entrepotlaw04_DiagTells.f (k + 1) a0 a1 a2) := by
  intro a0 a1 a2 k
  have ih0 := entrepotlaw04_DiagTells.mono_l k
  unfold entrepotlaw04_DiagTells.f
  repeat' first
      | (with_reducible exact ih0 _ _ _ _)
      | (with_reducible exact entrepotlaw04_shown.mono _)
      | (with_reducible exact entrepotref04_Tell.mono _ _ _ _)
      | (with_reducible exact LeO.refl _)
      | (with_reducible exact LeO.none _)
      | (with_reducible refine LeO.ite ?_ ?_)
      | (with_reducible refine LeO.bind ?_ (fun _ => ?_))
      | exact ih0 _ _ _ _
      | exact entrepotlaw04_shown.mono _
      | exact entrepotref04_Tell.mono _ _ _ _
      | exact LeO.none _
      | refine LeO.ite ?_ ?_
      | refine LeO.bind ?_ (fun _ => ?_)
def entrepotlaw04_DiagTells.T3 : Bool × List (List Nat × List Nat) := (true, [([], []), ([], []), ([0, 1], [0, 1]), ([], []), ([], []), ([3, 4, 2], [3, 4]), ([2, 5], [2, 5]), ([6, 5, 0, 1, 2, 3, 4, 5, 6], [6])])
def entrepotlaw04_DiagTells.B3 : List Nat := [0, 0, 3, 0, 0, 31, 63, 127]
theorem entrepotlaw04_DiagTells.tab3 : rtab .any (opsOf Tryd.f4 3) = entrepotlaw04_DiagTells.T3 := by kernel_rfl
theorem entrepotlaw04_DiagTells.bits3 : waitsOk entrepotlaw04_DiagTells.T3.2 entrepotlaw04_DiagTells.B3 = true := by kernel_rfl
set_option maxHeartbeats 8000000 in
set_option maxRecDepth 100000 in
theorem entrepotlaw04_DiagTells.calls (k : Nat) (a0 : ByteArray) (a1_0 : Int) (a1_1 : Int) (r : Bool) (w : World) (HT : Tab w) (h : entrepotlaw04_DiagTells.f k a0 a1_0 a1_1 = some r) :
    Calls Tryd.prog 4 #[.string a0, .agg #[.int .i64 a1_0, .int .i64 a1_1]] w fun e w' => e = .returned (.bool r) ∧ Below w.heap.size w w' := by
  have hu25 := Tryd.underlying25
  have HB := Aside0.mk (Below.refl w.heap.size w)
  have H : (if (a0.size : Int) > 1000 then (entrepotlaw04_DiagTells.j0 k a0 true a1_0 a1_1) else ((entrepotlaw04_shown.f k).bind fun t199 => (entrepotlaw04_DiagTells.j0 k a0 (!t199) a1_0 a1_1))) = some r := h
  clear h
  have HC3 := Aside0.mk H
  clear H
  go_enter Tryd.func4, Tryd.ntmps4
  go_upto_region 1 with (first | ((with_reducible refine gate_dst (N := 3) rfl ?_); refine box_event ?hg (N := 3) ?hd (cs := #[.int .i64 a1_0, .int .i64 a1_1]) (t := 25) ?hr ?_; (case hd => rfl); (case hg => rfl); (case hr => first | (go_simp; done) | (go_simp; rfl)); intro gb198 hg w4 hbox hb; have n0_ := Aside0.mk (below_step (by repeat (first | (with_reducible first | exact HB.out | apply below_alloc | apply pw_below_drewN | apply below_drew1) | exact HB.out)) hb); have n1_ := Aside0.mk (hbox); have n2_ := Aside0.mk ((by rw [hg]; exact (below_size (by repeat (first | (with_reducible first | exact HB.out | apply below_alloc | apply pw_below_drewN | apply below_drew1) | exact HB.out))) : w.heap.size ≤ gb198)); have n3_ := Aside0.mk ((by rw [hg]; exact (below_size (by repeat (first | (with_reducible first | exact HB.out | apply below_alloc | apply pw_below_drewN | apply below_drew1) | exact HB.out))) : w.heap.size ≤ gb198)); clear HB; have HB := n0_; have BK198 := n1_; have GW198 := n2_; have GE198 := n3_; clear n0_ n1_ n2_ n3_; clear hb hbox hg))
  (try simp only [Act.put, List.setIfInBounds_toArray, List.set_cons_zero, List.set_cons_succ])
  go_cut [11] (fun v11 wc => ∃ (kq : Nat) (x11_2 : Bool), v11 = .bool x11_2 ∧ Aside0 (entrepotlaw04_DiagTells.j0 kq a0 x11_2 a1_0 a1_1 = some r) ∧ Aside0 (kq ≤ k) ∧ Aside0 (wc.heap[gb198]? = some (.cells #[.int .i64 a1_0, .int .i64 a1_1] 25 (0, 0))) ∧ Aside0 (Below w.heap.size w wc))
  case first =>
    have H := HC3.out
    clear HC3
    by_cases c5 : (a0.size : Int) > 1000
    · rw [if_pos c5] at H
      have c5b0 : decide (1000 < (a0.size : Int)) = true := decide_eq_true c5
      have c5b1 : decide (1000 < a0.size) = true := decide_eq_true (by omega)
      clear c5
      (first | rw [c5b0] | (simp only [i64_w, i32_w]; rw [c5b0]) | skip)
      have H' := Aside0.mk H
      clear H
      go_wp2
      go_meet
      case rel => exact ⟨_, (true), (by first | rfl | (simp; done) | (simp [*]; done)), H', ⟨by first | omega | exact Nat.le_refl _⟩, ⟨by (with_reducible repeat (first | refine blk_drewN ?_ _ | refine blk_drew ?_ | refine blk_alloc ?_ _)); exact BK198.out⟩, ⟨by repeat (first | (with_reducible first | exact HB.out | apply below_alloc | apply pw_below_drewN | apply below_drew1 | refine below_set ?_ GE198.out) | exact HB.out)⟩⟩
    · rw [if_neg c5] at H
      have c5b0 : decide (1000 < (a0.size : Int)) = false := decide_eq_false c5
      have c5b1 : decide (1000 < a0.size) = false := decide_eq_false (by omega)
      clear c5
      (first | rw [c5b0] | (simp only [i64_w, i32_w]; rw [c5b0]) | skip)
      replace H := Option.bind_eq_some_iff.mp H
      obtain ⟨t199, A60, H⟩ := H
      replace H : (entrepotlaw04_DiagTells.j0 k a0 (!t199) a1_0 a1_1) = some r := H
      have A6 := Aside0.mk A60
      clear A60
      have H' := Aside0.mk H
      clear H
      go_wp2_with (first | (go_at_call 9; (with_reducible refine (entrepotlaw04_shown.calls k  t199 _ (Tab.below HT (by repeat (first | (with_reducible first | exact HB.out | apply below_alloc | apply pw_below_drewN | apply below_drew1 | refine below_set ?_ GE198.out) | exact HB.out))) A6.out).mono ?_); rintro e w7 ⟨rfl, hb⟩; have n0_ := Aside0.mk (blk_below (g := gb198) (o := .cells #[.int .i64 a1_0, .int .i64 a1_1] 25 (0, 0)) (by (with_reducible repeat (first | refine blk_drewN ?_ _ | refine blk_drew ?_ | refine blk_alloc ?_ _)); exact BK198.out) hb); have n1_ := Aside0.mk (below_step (by repeat (first | (with_reducible first | exact HB.out | apply below_alloc | apply pw_below_drewN | apply below_drew1 | refine below_set ?_ GE198.out) | exact HB.out)) hb); clear BK198; clear HB; have BK198 := n0_; have HB := n1_; clear n0_ n1_; (try clear hb); (try clear hb2); (try clear hk); (try clear hi)))
      go_meet
      case rel => exact ⟨_, (!t199), (by first | rfl | (simp; done) | (simp [*]; done)), H', ⟨by first | omega | exact Nat.le_refl _⟩, ⟨by (with_reducible repeat (first | refine blk_drewN ?_ _ | refine blk_drew ?_ | refine blk_alloc ?_ _)); exact BK198.out⟩, ⟨by repeat (first | (with_reducible first | exact HB.out | apply below_alloc | apply pw_below_drewN | apply below_drew1 | refine below_set ?_ GE198.out) | exact HB.out)⟩⟩
  case rest =>
    clear HC3
    try clear p2
    try clear c4
    try clear c5
    try clear c5b0
    try clear c5b1
    obtain ⟨kq, x11_2, rfl, HA, HJ2, BK198, HB⟩ := hcut
    cases kq with
    | zero => exact absurd HA.out (by simp [entrepotlaw04_DiagTells.j0])
    | succ kj2 =>
      have H := HA.out
      clear HA
      simp only [entrepotlaw04_DiagTells.j0] at H
      by_cases c8 : x11_2 = true
      · subst c8
        have H1 : ((entrepotlaw04_shown.f kj2).bind fun t200 => (some t200)) = some r := by rw [if_pos rfl] at H; exact H
        clear H
        have H := H1
        clear H1
        replace H := Option.bind_eq_some_iff.mp H
        obtain ⟨t200, A90, H⟩ := H
        replace H : (some t200) = some r := H
        have A9 := Aside0.mk A90
        clear A90
        obtain rfl := Option.some.inj H
        go_wp2_with (first | ((with_reducible refine gate_callee (f := 9) rfl ?_); refine goesL_ (some 12) rfl rfl Tryd.func9 (by kernel_rfl) rfl #[] rfl (by (try simp only [List.map_toArray, List.map_cons, List.map_nil]); first | done | rfl | (simp only [List.length_drop, List.length_take]; rfl)) ?_; (with_reducible refine (entrepotlaw04_shown.calls kj2  t200 _ (Tab.below HT (by repeat (first | (with_reducible first | exact HB.out | apply below_alloc | apply pw_below_drewN | apply below_drew1 | refine below_set ?_ GE198.out) | exact HB.out))) A9.out).mono ?_); rintro e w10 ⟨rfl, hb⟩; refine ⟨_, rfl, ?_⟩; have n0_ := Aside0.mk (blk_below (g := gb198) (o := .cells #[.int .i64 a1_0, .int .i64 a1_1] 25 (0, 0)) (by (with_reducible repeat (first | refine blk_drewN ?_ _ | refine blk_drew ?_ | refine blk_alloc ?_ _)); exact BK198.out) hb); have n1_ := Aside0.mk (below_step (by repeat (first | (with_reducible first | exact HB.out | apply below_alloc | apply pw_below_drewN | apply below_drew1 | refine below_set ?_ GE198.out) | exact HB.out)) hb); clear BK198; clear HB; have BK198 := n0_; have HB := n1_; clear n0_ n1_; (try clear hb); (try clear hb2); (try clear hk); (try clear hi)))
        go_ret
        exact ⟨by first | rfl | (simp [errW_none, errW_some] <;> rfl) | (simp [*, errW_none, errW_some] <;> rfl), by repeat (first | (with_reducible first | exact HB.out | apply below_alloc | apply pw_below_drewN | apply below_drew1 | refine below_set ?_ GE198.out) | exact HB.out)⟩
      · replace c8 := Bool.eq_false_iff.mpr c8
        subst c8
        have H1 : ((diag_Tell.f a0 a1_0 a1_1).bind fun t201 => ((entrepotref04_Tell.f kj2 a0 a1_0 a1_1).bind fun t202 => (some (t201.toList == t202.toList)))) = some r := by rw [if_neg (show ¬ (false = true) by decide)] at H; exact H
        clear H
        have H := H1
        clear H1
        replace H := Option.bind_eq_some_iff.mp H
        obtain ⟨t201, A110, H⟩ := H
        replace H : ((entrepotref04_Tell.f kj2 a0 a1_0 a1_1).bind fun t202 => (some (t201.toList == t202.toList))) = some r := H
        have A11 := Aside0.mk A110
        clear A110
        replace H := Option.bind_eq_some_iff.mp H
        obtain ⟨t202, A120, H⟩ := H
        replace H : (some (t201.toList == t202.toList)) = some r := H
        have A12 := Aside0.mk A120
        clear A120
        obtain rfl := Option.some.inj H
        try go_wp2
        have n0_ := Aside0.mk (blk_drew BK198.out)
        have n1_ := Aside0.mk (below_drew1 HB.out)
        clear BK198
        clear HB
        have BK198 := n0_
        have HB := n1_
        clear n0_ n1_
        refine start_ (n := 8) (S := fun w' => w'.cell? ⟨gb198, 0, none⟩ = some (.int .i64 a1_0) ∧ w'.cell? ⟨gb198, 1, none⟩ = some (.int .i64 a1_1)) (ds := []) #[false, false, false, false, false, false, false, false] (by kernel_rfl) rfl rfl ⟨(blk_cell BK198.out 0).trans rfl, (blk_cell BK198.out 1).trans rfl⟩ (fun hHeld => ?_); refine with_tabW entrepotlaw04_DiagTells.tab3 entrepotlaw04_DiagTells.bits3 (fun HT_ HW_ => ?_)
        generalize wc.drew = w13 at BK198 HB hHeld ⊢
        refine pure_ (i := 0) (N := some 13) (v := ?_) (a' := ?_) #[true, false, false, false, false, false, false, false] rfl rfl (any_of HT_.out (by kernel_rfl)) (fun _ _ _ h => h) (Or.inl ⟨by rfl, ?_⟩) ?_ ?_
        rotate_left
        · intro w'
          go_simp
          with_reducible rfl
        rotate_left
        · simp only [Act.put, List.setIfInBounds_toArray, List.set_cons_zero, List.set_cons_succ, i64_w, i32_w]
          rfl
        refine pure_ (i := 3) (N := some 16) (v := ?_) (a' := ?_) #[true, false, false, true, false, false, false, false] rfl rfl (any_of HT_.out (by kernel_rfl)) (fun _ _ _ h => h) (Or.inl ⟨by rfl, ?_⟩) ?_ ?_
        rotate_left
        · intro w'
          go_simp
          with_reducible rfl
        rotate_left
        · simp only [Act.put, List.setIfInBounds_toArray, List.set_cons_zero, List.set_cons_succ, i64_w, i32_w]
          rfl
        refine take_ (i := 1) (N := some 14) (v := ?_) (a' := ?_) #[true, true, false, true, false, false, false, false] rfl rfl (take_ofW HT_.out HW_.out (by kernel_rfl)) (fun _ _ _ h => h) (Or.inl ⟨by rfl, ?_⟩) hHeld ?_ ?_
        rotate_left
        · rintro w' ⟨s0, s1⟩
          go_simp
          with_reducible rfl
        rotate_left
        · simp only [Act.put, List.setIfInBounds_toArray, List.set_cons_zero, List.set_cons_succ, i64_w, i32_w]
          rfl
        refine take_ (i := 4) (N := some 17) (v := ?_) (a' := ?_) #[true, true, false, true, true, false, false, false] rfl rfl (take_ofW HT_.out HW_.out (by kernel_rfl)) (fun _ _ _ h => h) (Or.inl ⟨by rfl, ?_⟩) hHeld ?_ ?_
        rotate_left
        · rintro w' ⟨s0, s1⟩
          go_simp
          with_reducible rfl
        rotate_left
        · simp only [Act.put, List.setIfInBounds_toArray, List.set_cons_zero, List.set_cons_succ, i64_w, i32_w]
          rfl
        refine one_ (i := 2) (N := some 15) #[true, true, true, true, true, false, false, false] rfl rfl (one_of HT_.out (by kernel_rfl)) (by decide) (fun K hK => ?_)
        refine goes_ Tryd.func13 (by kernel_rfl) rfl #[.string a0, .agg #[.int .i64 a1_0, .int .i64 a1_1]] (by rfl) rfl rfl (by (try simp only [List.map_toArray, List.map_cons, List.map_nil]); first | done | rfl | (simp only [List.length_drop, List.length_take]; rfl)) ?_
        with_reducible refine (diag_Tell.calls a0 a1_0 a1_1 t201 _ (Tab.below HT (by repeat (first | (with_reducible first | exact HB.out | apply below_alloc | apply pw_below_drewN | apply below_drew1) | exact HB.out))) A11.out).mono ?_
        rintro e w14 ⟨rfl, hb⟩
        refine ⟨_, rfl, ?_⟩
        have n0_ := Aside0.mk (blk_below (g := gb198) (o := .cells #[.int .i64 a1_0, .int .i64 a1_1] 25 (0, 0)) (by (with_reducible repeat (first | refine blk_drewN ?_ _ | refine blk_drew ?_ | refine blk_alloc ?_ _)); exact BK198.out) hb)
        have n1_ := Aside0.mk (below_step (by repeat (first | (with_reducible first | exact HB.out | apply below_alloc | apply pw_below_drewN | apply below_drew1 | refine below_set ?_ GE198.out) | exact HB.out)) hb)
        clear BK198
        clear HB
        have BK198 := n0_
        have HB := n1_
        clear n0_ n1_
        (try clear hb)
        (try clear hb2)
        (try clear hk)
        (try clear hi)
        refine hK.out _ _ ⟨(blk_cell BK198.out 0).trans rfl, (blk_cell BK198.out 1).trans rfl⟩ (fun hHeld => ?_)
        clear hK K
        refine norm_ (a' := ?_) ?_ ?_
        rotate_left
        · show Act.put _ (some 15) _ = _
          simp only [Act.put, List.setIfInBounds_toArray, List.set_cons_zero, List.set_cons_succ, i64_w, i32_w]
          rfl
        refine one_ (i := 5) (N := some 18) #[true, true, true, true, true, true, false, false] rfl rfl (one_of HT_.out (by kernel_rfl)) (by decide) (fun K hK => ?_)
        refine goes_ Tryd.func14 (by kernel_rfl) rfl #[.string a0, .agg #[.int .i64 a1_0, .int .i64 a1_1]] (by rfl) rfl rfl (by (try simp only [List.map_toArray, List.map_cons, List.map_nil]); first | done | rfl | (simp only [List.length_drop, List.length_take]; rfl)) ?_
        with_reducible refine (entrepotref04_Tell.calls kj2 a0 a1_0 a1_1 t202 _ A12.out).mono ?_
        rintro e w15 ⟨rfl, hb⟩
        refine ⟨_, rfl, ?_⟩
        have n0_ := Aside0.mk (blk_below (g := gb198) (o := .cells #[.int .i64 a1_0, .int .i64 a1_1] 25 (0, 0)) (by (with_reducible repeat (first | refine blk_drewN ?_ _ | refine blk_drew ?_ | refine blk_alloc ?_ _)); exact BK198.out) hb)
        have n1_ := Aside0.mk (below_step (by repeat (first | (with_reducible first | exact HB.out | apply below_alloc | apply pw_below_drewN | apply below_drew1 | refine below_set ?_ GE198.out) | exact HB.out)) hb)
        clear BK198
        clear HB
        have BK198 := n0_
        have HB := n1_
        clear n0_ n1_
        (try clear hb)
        (try clear hb2)
        (try clear hk)
        (try clear hi)
        refine hK.out _ _ ⟨(blk_cell BK198.out 0).trans rfl, (blk_cell BK198.out 1).trans rfl⟩ (fun hHeld => ?_)
        clear hK K
        refine norm_ (a' := ?_) ?_ ?_
        rotate_left
        · show Act.put _ (some 18) _ = _
          simp only [Act.put, List.setIfInBounds_toArray, List.set_cons_zero, List.set_cons_succ, i64_w, i32_w]
          rfl
        refine pure_ (i := 6) (N := some 19) (v := ?_) (a' := ?_) #[true, true, true, true, true, true, true, false] rfl rfl (any_of HT_.out (by kernel_rfl)) (fun _ _ _ h => h) (Or.inl ⟨by rfl, ?_⟩) ?_ ?_
        rotate_left
        · intro w'
          go_simp
          with_reducible rfl
        rotate_left
        · simp only [Act.put, List.setIfInBounds_toArray, List.set_cons_zero, List.set_cons_succ, i64_w, i32_w]
          rfl
        refine pure_ (i := 7) (N := some 4) (v := ?_) (a' := ?_) #[true, true, true, true, true, true, true, true] rfl rfl (any_of HT_.out (by kernel_rfl)) (fun _ _ _ h => h) (Or.inl ⟨by rfl, ?_⟩) ?_ ?_
        rotate_left
        · intro w'
          go_simp
          with_reducible rfl
        rotate_left
        · simp only [Act.put, List.setIfInBounds_toArray, List.set_cons_zero, List.set_cons_succ, i64_w, i32_w]
          rfl
        refine done_ (done_of HT_.out (by kernel_rfl)) ?_
        try go_wp2
        go_ret
        exact ⟨by first | rfl | (simp [errW_none, errW_some] <;> rfl) | (simp [*, errW_none, errW_some] <;> rfl), by repeat (first | (with_reducible first | exact HB.out | apply below_alloc | apply pw_below_drewN | apply below_drew1 | refine below_set ?_ GE198.out) | exact HB.out)⟩

end Go.Proofs.YtgphciopondlaaaDoor.PAll
