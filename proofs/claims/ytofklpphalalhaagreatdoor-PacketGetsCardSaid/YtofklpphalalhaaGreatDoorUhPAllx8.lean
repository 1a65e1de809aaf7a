/- A text of this claim, cut to what the claim uses. Conditions: each theorem's own. -/
import Derived.Test.YtofklpphalalhaaGreatDoorUhJ1
import Derived.Test.YtofklpphalalhaaGreatDoorUhJ4
-- Written by a program out of the translation, for several roots at once (set All). Not trusted: Lean checks it.
namespace Go.Proofs.YtofklpphalalhaaGreatDoor.PAll
open Go.RowKit Go.Proofs.YtofklpphalalhaaGreatDoorW.PrintWords Go.Proofs.YtofklpphalalhaaGreatDoorW.PrintLast Go.Proofs.YtofklpphalalhaaGreatDoorW.PrintMore
attribute [local go_sem] min2_int min_two
set_option linter.unusedVariables false
set_option linter.unusedSimpArgs false
/-! ### entrepotlaw22_small: function 25 -/
mutual
def entrepotlaw22_small.l0 : Nat → Int → Int → List (List Int) → Option (Bool)
 | 0, _, _, _ => none
 | k + 1, x3, x4, x129000 => if x4 < (x129000.length : Int) then (entrepotlaw22_small.j1 k x3 x4 (decide (x4 < 70)) x129000) else (entrepotlaw22_small.j1 k x3 x4 false x129000)
def entrepotlaw22_small.j1 : Nat → Int → Int → Bool → List (List Int) → Option (Bool)
 | 0, _, _, _, _ => none
 | k + 1, x3, x4, x14, x129000 => if x14 = true then (if 0 ≤ x4 then (if x4 < (x129000.length : Int) then (if ((rd_L4 x129000 x4).length : Int) > 300 then (some false) else (entrepotlaw22_small.l1 k (wrap64 (x3 + ((rd_L4 x129000 x4).length : Int))) x4 0 x129000)) else (none)) else (none)) else (if (x129000.length : Int) ≤ 60 then (some (decide (x3 ≤ 300))) else (some false))
def entrepotlaw22_small.l1 : Nat → Int → Int → Int → List (List Int) → Option (Bool)
 | 0, _, _, _, _ => none
 | k + 1, x3, x4, x5, x129000 => if 0 ≤ x4 then (if x4 < (x129000.length : Int) then (if x5 < ((rd_L4 x129000 x4).length : Int) then (if 0 ≤ x5 then (if (rd (rd_L4 x129000 x4) x5) < (-2305843009213693952) then (some false) else (if (rd (rd_L4 x129000 x4) x5) > 2305843009213693951 then (some false) else (entrepotlaw22_small.l1 k x3 x4 (wrap64 (x5 + 1)) x129000))) else (none)) else (entrepotlaw22_small.l0 k x3 (wrap64 (x4 + 1)) x129000)) else (none)) else (none)
end
-- NOT PRINTED: function 73 (packet_begun)
/-! ### pack_PutUint: function 77 -/
def pack_PutUint.l0 : Nat → Int → List Int → Option (ByteArray)
 | 0, _, _ => none
 | k + 1, x0, x3 => if x0 ≥ 128 then (if x3.length < 140737488355328 then (pack_PutUint.l0 k (x0 / 128) (x3 ++ [Go.bits .or .u8 ((x0) % 256) 128])) else (none)) else (if x3.length < 140737488355328 then (some (strOfNums (x3 ++ [(x0) % 256]))) else (none))
def pack_PutUint.f (k : Nat) (a0 : Int) : Option (ByteArray) := if a0 < 0 then (some (⟨#[]⟩ : ByteArray)) else (pack_PutUint.l0 k a0 ([] : List Int))
set_option maxHeartbeats 8000000 in
set_option maxRecDepth 100000 in
theorem pack_PutUint.calls (k : Nat) (a0 : Int) (r : ByteArray) (w : World) (h : pack_PutUint.f k a0 = some r) :
    Calls Tryz.prog 77 #[.int .i64 a0] w fun e w' => e = .returned (.string r) ∧ Below w.heap.size w w' := by
  have HB := Aside0.mk (Below.refl w.heap.size w)
  have H : (if a0 < 0 then (some (⟨#[]⟩ : ByteArray)) else (pack_PutUint.l0 k a0 ([] : List Int))) = some r := h
  clear h
  by_cases c2 : a0 < 0
  · rw [if_pos c2] at H
    have c2b0 := decide_eq_true c2
    clear c2
    obtain rfl := Option.some.inj H
    go_enter Tryz.func77, Tryz.ntmps77
    go_wp2
    go_ret
    exact ⟨ze, zb HB⟩
  · rw [if_neg c2] at H
    have c2b0 := decide_eq_false c2
    clear c2
    have H' := Aside0.mk H
    clear H
    go_enter Tryz.func77, Tryz.ntmps77
    go_wp2
    go_loopg [0, 3] k (fun kq v0 v3 w' => ∃ (x0_1 : Int) (x3_1 : List Int), v0 = .int .i64 x0_1 ∧ Aside0 (pack_PutUint.l0 kq x0_1 x3_1 = some r) ∧ Aside0 (kq ≤ k) ∧ Aside0 (Kd.R (Kd.int .u8) 5 w' w.heap.size (fun _ => True) v3 x3_1) ∧ Aside0 (Below w.heap.size w w'))
    case atStart => exact ⟨(a0), (([] : List Int)), zs, H', ⟨Nat.le_refl _⟩, ⟨by first | exact Kd.R_nil _ _ _ _ _ | exact Kd.N_nil _ _ _ _ _ | exact Kd.V_nil _ _ _ _ _ | exact Kd.Q_nil _ _ _ _ _ | exact Kd.S_nil _ _ _ _ _⟩, ⟨zb HB⟩⟩
    case round =>
      clear H'
      try clear c2
      try clear c2b0
      try clear p2
      obtain ⟨x0_1, x3_1, rfl, HA, HK1, HO_3, HB⟩ := hrel
      cases gk with
      | zero => exact absurd HA.out (by simp [pack_PutUint.l0])
      | succ k1 =>
        have H := HA.out
        clear HA
        simp only [pack_PutUint.l0] at H
        by_cases c3 : x0_1 ≥ 128
        · rw [if_pos c3] at H
          have c3b0 := decide_eq_true c3
          clear c3
          by_cases c4 : x3_1.length < 140737488355328
          · rw [if_pos c4] at H
            have LMc4 := Aside0.mk c4
            clear c4
            obtain ⟨y136, hy136⟩ : ∃ y_ : List Int, y_ = (x3_1 ++ [Go.bits .or .u8 ((x0_1) % 256) 128]) := ⟨_, rfl⟩
            replace H : (pack_PutUint.l0 k1 (x0_1 / 128) y136) = some r := by first | (rw [hy136]; with_reducible exact H) | (have H2_ := (Option.bind_some _ _).symm.trans H; rw [hy136]; with_reducible exact H2_) | (have H2_ := (Option.bind_some _ _).symm.trans H; with_reducible exact H2_) | with_reducible exact H | (rw [hy136]; exact H) | exact H
            have Ny136 := Aside0.mk hy136
            clear hy136
            have H' := Aside0.mk H
            clear H
            go_wp2_with (first | ((with_reducible refine gate_builtin (b := .append) (xs := #[.tmp 10, .tmp 14]) rfl ?_); at_builtin; refine Kd.R_append (Kd.int .u8) (w0 := w) w.heap.size rfl (.tmp 10) (.tmp 14) 59 5 (.int .u8 0) 1 rfl Tryz.underlying59 info5 rfl (by decide) (by omega) u3 x3_1 (Go.bits .or .u8 ((x0_1) % 256) 128) [.int .u8 (Go.bits .or .u8 ((x0_1) % 256) 128)] (fun _ => True) (fun _ => False) rfl rfl ?aP (fun _ hk => hk.elim) ?aF ?aO ?aB ?aS ?aL ?_; (case aP => exact rfl); (case aB => exact (zb HB)); (case aF => exact (fun _ _ => trivial)); (case aO => exact (zr HO_3)); (case aS => exact (below_size (zb HB))); (case aL => have := LMc4.out; omega); intro v137 w5 ho hb hg hat; rw [← Ny136.out] at ho; replace HB := am (hb); have HO138 := am (ho); clear HO_3; clear ho hb hg hat))
            go_roundg k1
            case measure => have := HK1.out; omega
            case rel => exact ⟨(x0_1 / 128), (y136), zs, H', ⟨by have := HK1.out; omega⟩, ⟨zr HO138⟩, ⟨zb HB⟩⟩
          · rw [if_neg c4] at H
            exact absurd H (by simp)
        · rw [if_neg c3] at H
          have c3b0 := decide_eq_false c3
          clear c3
          by_cases c6 : x3_1.length < 140737488355328
          · rw [if_pos c6] at H
            have LMc6 := Aside0.mk c6
            clear c6
            obtain ⟨y139, hy139⟩ : ∃ y_ : List Int, y_ = (x3_1 ++ [(x0_1) % 256]) := ⟨_, rfl⟩
            replace H : (some (strOfNums y139)) = some r := by first | (rw [hy139]; with_reducible exact H) | (have H2_ := (Option.bind_some _ _).symm.trans H; rw [hy139]; with_reducible exact H2_) | (have H2_ := (Option.bind_some _ _).symm.trans H; with_reducible exact H2_) | with_reducible exact H | (rw [hy139]; exact H) | exact H
            have Ny139 := Aside0.mk hy139
            clear hy139
            obtain rfl := Option.some.inj H
            go_wp2_with (first | ((with_reducible refine gate_builtin (b := .append) (xs := #[.tmp 16, .tmp 19]) rfl ?_); at_builtin; refine Kd.R_append (Kd.int .u8) (w0 := w) w.heap.size rfl (.tmp 16) (.tmp 19) 59 5 (.int .u8 0) 1 rfl Tryz.underlying59 info5 rfl (by decide) (by omega) u3 x3_1 ((x0_1) % 256) [.int .u8 ((x0_1) % 256)] (fun _ => True) (fun _ => False) rfl rfl ?aP (fun _ hk => hk.elim) ?aF ?aO ?aB ?aS ?aL ?_; (case aP => exact rfl); (case aB => exact (zb HB)); (case aF => exact (fun _ _ => trivial)); (case aO => exact (zr HO_3)); (case aS => exact (below_size (zb HB))); (case aL => have := LMc6.out; omega); intro v140 w7 ho hb hg hat; rw [← Ny139.out] at ho; replace HB := am (hb); have HO141 := am (ho); clear HO_3; clear ho hb hg hat; have hcv8 := own_string (P := Tryz.prog) Tryz.underlying59 Tryz.underlying5 Tryz.underlying9 (Kd.own_of_R HO141.out)))
            go_ret
            exact ⟨ze, zb HB⟩
          · rw [if_neg c6] at H
            exact absurd H (by simp)
/-! ### pack_PutText: function 75 -/
def pack_PutText.f (k : Nat) (a0 : ByteArray) : Option (ByteArray) := (pack_PutUint.f k (a0.size : Int)).bind fun t142 => (if t142.size + a0.size ≤ 9223372036854775807 then (some (t142 ++ a0)) else (none))
set_option maxHeartbeats 8000000 in
set_option maxRecDepth 100000 in
theorem pack_PutText.calls (k : Nat) (a0 : ByteArray) (r : ByteArray) (w : World) (h : pack_PutText.f k a0 = some r) :
  Calls Tryz.prog 75 #[.string a0] w fun e w' => e = .returned (.string r) ∧ Below w.heap.size w w' := by
 have HB := Aside0.mk (Below.refl w.heap.size w)
 have H : ((pack_PutUint.f k (a0.size : Int)).bind fun t142 => (if t142.size + a0.size ≤ 9223372036854775807 then (some (t142 ++ a0)) else (none))) = some r := h
 clear h
 replace H := Option.bind_eq_some_iff.mp H
 obtain ⟨t142, A20, H⟩ := H
 have A2 := Aside0.mk A20
 clear A20
 by_cases c3 : t142.size + a0.size ≤ 9223372036854775807
 ·rw [if_pos c3] at H
  have c3b0 := eq_true c3
  have c3b1 := decide_eq_true c3
  try have c3b2 : (9223372036854775807 < t142.size + a0.size) = False := eq_false (Nat.not_lt.2 c3)
  obtain rfl := Option.some.inj H
  go_enter Tryz.func75, Tryz.ntmps75
  go_wp2_with (first | ((with_reducible refine gate_callee (f := 77) rfl ?_); refine gl (some 5) Tryz.func77 #[.int .i64 (a0.size : Int)] rfl ?_; (with_reducible refine (pack_PutUint.calls k (a0.size : Int) t142 _ A2.out).mono ?_); rintro e w4 ⟨rfl, hb⟩; refine ⟨_, rfl, ?_⟩; replace HB := am (below_step (zb HB) hb); (try clear hb); (try clear hb2); (try clear hk); (try clear hi)))
  go_ret
  exact ⟨ze, zb HB⟩
 ·rw [if_neg c3] at H
  exact absurd H (by simp)
/-! ### pack_PutInt: function 119 -/
def pack_PutInt.f (k : Nat) (a0 : Int) : Option (ByteArray) := if a0 > 2305843009213693951 then (some (⟨#[]⟩ : ByteArray)) else (if a0 < (-2305843009213693952) then (some (⟨#[]⟩ : ByteArray)) else ((pack_PutUint.f k (Go.bits .xor .i64 (wrap64 (a0 * 2)) (a0 / 9223372036854775808))).bind fun t143 => (some t143)))
set_option maxHeartbeats 8000000 in
set_option maxRecDepth 100000 in
theorem pack_PutInt.calls (k : Nat) (a0 : Int) (r : ByteArray) (w : World) (h : pack_PutInt.f k a0 = some r) :
  Calls Tryz.prog 119 #[.int .i64 a0] w fun e w' => e = .returned (.string r) ∧ Below w.heap.size w w' := by
 have HB := Aside0.mk (Below.refl w.heap.size w)
 have H : (if a0 > 2305843009213693951 then (some (⟨#[]⟩ : ByteArray)) else (if a0 < (-2305843009213693952) then (some (⟨#[]⟩ : ByteArray)) else ((pack_PutUint.f k (Go.bits .xor .i64 (wrap64 (a0 * 2)) (a0 / 9223372036854775808))).bind fun t143 => (some t143)))) = some r := h
 clear h
 by_cases c2 : a0 > 2305843009213693951
 ·rw [if_pos c2] at H
  have c2b0 := decide_eq_true c2
  clear c2
  obtain rfl := Option.some.inj H
  go_enter Tryz.func119, Tryz.ntmps119
  go_wp2
  go_ret
  exact ⟨ze, zb HB⟩
 ·rw [if_neg c2] at H
  have c2b0 := decide_eq_false c2
  clear c2
  by_cases c3 : a0 < (-2305843009213693952)
  ·rw [if_pos c3] at H
   have c3b0 := decide_eq_true c3
   clear c3
   obtain rfl := Option.some.inj H
   go_enter Tryz.func119, Tryz.ntmps119
   go_wp2
   go_ret
   exact ⟨ze, zb HB⟩
  ·rw [if_neg c3] at H
   have c3b0 := decide_eq_false c3
   clear c3
   replace H := Option.bind_eq_some_iff.mp H
   obtain ⟨t143, A40, H⟩ := H
   have A4 := Aside0.mk A40
   clear A40
   obtain rfl := Option.some.inj H
   go_enter Tryz.func119, Tryz.ntmps119
   go_wp2_with (first | ((with_reducible refine gate_callee (f := 77) rfl ?_); refine gl (some 14) Tryz.func77 #[.int .i64 (Go.bits .xor .i64 (wrap64 (a0 * 2)) (a0 / 9223372036854775808))] rfl ?_; (with_reducible refine (pack_PutUint.calls k (Go.bits .xor .i64 (wrap64 (a0 * 2)) (a0 / 9223372036854775808)) t143 _ A4.out).mono ?_); rintro e w5 ⟨rfl, hb⟩; refine ⟨_, rfl, ?_⟩; replace HB := am (below_step (zb HB) hb); (try clear hb); (try clear hb2); (try clear hk); (try clear hi)))
   go_ret
   exact ⟨ze, zb HB⟩
-- NOT PRINTED: function 76 (packet_writer_ints)
-- NOT PRINTED: function 78 (packet_writer_list)
/-! ### pack_Seal: function 120 -/
def pack_Seal.f (a0 : ByteArray) : Option (ByteArray) := (pack_Sum.f a0).bind fun t144 => ((some (([(t144) % 256, (t144 / 256) % 256, (t144 / 65536) % 256, (t144 / 16777216) % 256] : List Int) : List Int)).bind fun y145 => (if a0.size + (strOfNums y145).size ≤ 9223372036854775807 then (some (a0 ++ (strOfNums y145))) else (none)))
set_option maxHeartbeats 8000000 in
set_option maxRecDepth 100000 in
theorem pack_Seal.calls (a0 : ByteArray) (r : ByteArray) (w : World) (HT : Tab w) (h : pack_Seal.f a0 = some r) :
  Calls Tryz.prog 120 #[.string a0] w fun e w' => e = .returned (.string r) ∧ Below w.heap.size w w' := by
 have HB := Aside0.mk (Below.refl w.heap.size w)
 have H : ((pack_Sum.f a0).bind fun t144 => ((some (([(t144) % 256, (t144 / 256) % 256, (t144 / 65536) % 256, (t144 / 16777216) % 256] : List Int) : List Int)).bind fun y145 => (if a0.size + (strOfNums y145).size ≤ 9223372036854775807 then (some (a0 ++ (strOfNums y145))) else (none)))) = some r := h
 clear h
 replace H := Option.bind_eq_some_iff.mp H
 obtain ⟨t144, A20, H⟩ := H
 have A2 := Aside0.mk A20
 clear A20
 obtain ⟨y145, hy145⟩ : ∃ y_ : List Int, y_ = (([(t144) % 256, (t144 / 256) % 256, (t144 / 65536) % 256, (t144 / 16777216) % 256] : List Int)) := ⟨_, rfl⟩
 replace H : (if a0.size + (strOfNums y145).size ≤ 9223372036854775807 then (some (a0 ++ (strOfNums y145))) else (none)) = some r := by first | (rw [hy145]; with_reducible exact H) | (have H2_ := (Option.bind_some _ _).symm.trans H; rw [hy145]; with_reducible exact H2_) | (have H2_ := (Option.bind_some _ _).symm.trans H; with_reducible exact H2_) | with_reducible exact H | (rw [hy145]; exact H) | exact H
 have Ny145 := Aside0.mk hy145
 clear hy145
 by_cases c3 : a0.size + (strOfNums y145).size ≤ 9223372036854775807
 ·rw [if_pos c3] at H
  have c3b0 := eq_true c3
  have c3b1 := decide_eq_true c3
  try have c3b2 : (9223372036854775807 < a0.size + (strOfNums y145).size) = False := eq_false (Nat.not_lt.2 c3)
  obtain rfl := Option.some.inj H
  go_enter Tryz.func120, Tryz.ntmps120
  go_wp2_with (first | ((with_reducible refine gate_callee (f := 172) rfl ?_); refine gl (some 5) Tryz.func172 #[.string a0] rfl ?_; (with_reducible refine (pack_Sum.calls a0 t144 _ (Tab.below HT (zb HB)) A2.out).mono ?_); rintro e w4 ⟨rfl, hb⟩; refine ⟨_, rfl, ?_⟩; replace HB := am (below_step (zb HB) hb); (try clear hb); (try clear hb2); (try clear hk); (try clear hi)) | ((with_reducible refine gate_dst (N := 18) rfl ?_); refine Kd.R_lit (Kd.int .u8) _ 5 ?hg (N := 18) ?hd (xs := ([(t144) % 256, (t144 / 256) % 256, (t144 / 65536) % 256, (t144 / 16777216) % 256] : List Int)) (inner := [.int .u8 ((t144) % 256), .int .u8 ((t144 / 256) % 256), .int .u8 ((t144 / 65536) % 256), .int .u8 ((t144 / 16777216) % 256)]) (ok := fun _ => True) (okp := fun _ => True) ?hr ?hp (fun _ hk => hk) trivial (Below.refl _ _) (Nat.le_refl _) (by simp) ?_; (case hd => rfl); (case hg => rfl); (case hr => first | (go_simp; done) | (go_simp; rfl)); (case hp => exact (Reps.one (show Kd.M (Kd.int .u8) _ _ _ ((t144) % 256) [.int .u8 ((t144) % 256)] from rfl) (Reps.one (show Kd.M (Kd.int .u8) _ _ _ ((t144 / 256) % 256) [.int .u8 ((t144 / 256) % 256)] from rfl) (Reps.one (show Kd.M (Kd.int .u8) _ _ _ ((t144 / 65536) % 256) [.int .u8 ((t144 / 65536) % 256)] from rfl) (Reps.one (show Kd.M (Kd.int .u8) _ _ _ ((t144 / 16777216) % 256) [.int .u8 ((t144 / 16777216) % 256)] from rfl) (Reps.none _ _)))))); intro v146 w5 ho6 hb hg_ hnew_; clear hg_ hnew_; (first | rw [← Ny145.out] at ho6 | (simp only [Int.reduceToNat] at ho6; rw [← Ny145.out] at ho6)); have HO147 := am (Kd.R_lower ho6 (below_size (zb HB))); replace HB := am (below_step (zb HB) hb); clear hb ho6; have hcv7 := own_string (P := Tryz.prog) Tryz.underlying59 Tryz.underlying5 Tryz.underlying9 (Kd.own_of_R HO147.out)))
  go_ret
  exact ⟨ze, zb HB⟩
 ·rw [if_neg c3] at H
  exact absurd H (by simp)
-- NOT PRINTED: function 79 (packet_writer_sealed)
end Go.Proofs.YtofklpphalalhaaGreatDoor.PAll
