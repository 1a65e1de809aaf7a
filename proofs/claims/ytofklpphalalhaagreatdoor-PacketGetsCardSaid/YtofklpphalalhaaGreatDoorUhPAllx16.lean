/- A text of this claim, cut to what the claim uses. Conditions: each theorem's own. -/
import Derived.Test.YtofklpphalalhaaGreatDoorUhJ1
import Derived.Test.YtofklpphalalhaaGreatDoorUhPAllx1
import Derived.Test.YtofklpphalalhaaGreatDoorUhPAllx15
import Derived.Test.YtofklpphalalhaaGreatDoorUhJ4
-- Written by a program out of the translation, for several roots at once (set All). Not trusted: Lean checks it.
namespace Go.Proofs.YtofklpphalalhaaGreatDoor.PAll
open Go.RowKit Go.Proofs.YtofklpphalalhaaGreatDoorW.PrintWords Go.Proofs.YtofklpphalalhaaGreatDoorW.PrintLast Go.Proofs.YtofklpphalalhaaGreatDoorW.PrintMore
attribute [local go_sem] min2_int min_two
set_option linter.unusedVariables false
set_option linter.unusedSimpArgs false
attribute [local go_sem high] eqA38
/-! ### entrepotref04_Put: function 142 -/
mutual
def entrepotref04_Put.l0 : Nat → List (S38) → List (S38) → Bool → Int → Int → Int → Option ((List (S38)))
 | 0, _, _, _, _, _, _ => none
 | k + 1, x0, x5, x6, x7, x314000, x314001 => if x7 < (x0.length : Int) then (if x6 = true then (entrepotref04_Put.j1 k x0 x5 x6 x7 false x314000 x314001) else (if 0 ≤ x7 then ((entrepotref04_Less.f ((rd_T38 x0 x7).f0) ((rd_T38 x0 x7).f1) x314000 x314001).bind fun t327 => (entrepotref04_Put.j1 k x0 x5 x6 x7 (!t327) x314000 x314001)) else (none))) else (if x6 = true then (if 0 ≤ (mn (x5.length : Int) 16) then (if (mn (x5.length : Int) 16) ≤ (x5.length : Int) then (some (x5.take ((mn (x5.length : Int) 16) : Int).toNat)) else (none)) else (none)) else (if x5.length < 8796093022208 then ((some (x5 ++ [(⟨x314000, x314001⟩ : S38)] : List (S38))).bind fun y320 => (if 0 ≤ (mn (y320.length : Int) 16) then (if (mn (y320.length : Int) 16) ≤ (y320.length : Int) then (some (y320.take ((mn (y320.length : Int) 16) : Int).toNat)) else (none)) else (none))) else (none)))
def entrepotref04_Put.j1 : Nat → List (S38) → List (S38) → Bool → Int → Bool → Int → Int → Option ((List (S38)))
 | 0, _, _, _, _, _, _, _ => none
 | k + 1, x0, x5, x6, x7, x25, x314000, x314001 => if x25 = true then (if x5.length < 8796093022208 then ((some (x5 ++ [(⟨x314000, x314001⟩ : S38)] : List (S38))).bind fun y328 => (if 0 ≤ x7 then (if x7 < (x0.length : Int) then (if (((rd_T38 x0 x7).f0) == x314000 && (((rd_T38 x0 x7).f1) == x314001)) = true then (entrepotref04_Put.l0 k x0 y328 true (wrap64 (x7 + 1)) x314000 x314001) else (if y328.length < 8796093022208 then (entrepotref04_Put.l0 k x0 (y328 ++ [(⟨(rd_T38 x0 x7).f0, (rd_T38 x0 x7).f1⟩ : S38)]) true (wrap64 (x7 + 1)) x314000 x314001) else (none))) else (none)) else (none))) else (none)) else (if 0 ≤ x7 then (if x7 < (x0.length : Int) then (if x5.length < 8796093022208 then (entrepotref04_Put.l0 k x0 (x5 ++ [(⟨(rd_T38 x0 x7).f0, (rd_T38 x0 x7).f1⟩ : S38)]) x6 (wrap64 (x7 + 1)) x314000 x314001) else (none)) else (none)) else (none))
end
def entrepotref04_Put.f (k : Nat) (l0 : List (S38)) (a1_0 : Int) (a1_1 : Int) : Option ((List (S38))) := entrepotref04_Put.l0 k l0 (([] : List (S38))) false 0 a1_0 a1_1
def entrepotref04_Put.T6 : Bool × List (List Nat × List Nat) := (true, [([], []), ([0], [0]), ([1], [1]), ([2], [2]), ([2], [2]), ([3, 4, 2], [2, 3, 4]), ([5, 2], [2, 5]), ([2], [2]), ([6, 7, 2, 2], [2, 6, 7]), ([8, 2], [2, 8]), ([2, 9], [2, 9])])
def entrepotref04_Put.B6 : List Nat := [0, 1, 3, 7, 7, 31, 63, 7, 255, 511, 1023]
theorem entrepotref04_Put.tab6 : rtab .any (opsOf Tryz.f142 6) = entrepotref04_Put.T6 := by kernel_rfl
theorem entrepotref04_Put.bits6 : waitsOk entrepotref04_Put.T6.2 entrepotref04_Put.B6 = true := by kernel_rfl
set_option maxHeartbeats 8000000 in
set_option maxRecDepth 100000 in
theorem entrepotref04_Put.calls (k : Nat) (A0 : Option Addr) (c0 : Nat) (l0 : List (S38)) (a1_0 : Int) (a1_1 : Int) (r : List (S38)) (w : World) (hr0 : Kd.C k38 w A0 l0.length l0) (hc0 : l0.length ≤ c0) (h : entrepotref04_Put.f k l0 a1_0 a1_1 = some r) :
    Calls Tryz.prog 142 #[.slice A0 l0.length c0, .agg #[.int .i64 a1_0, .int .i64 a1_1]] w fun e w' => ∃ v0_ : Value, e = .returned (v0_) ∧ Kd.R k38 38 w' w.heap.size (fun _ => True) v0_ r ∧ Below w.heap.size w w' := by
  have hu38 := Tryz.underlying38
  have HR0 := Aside0.mk hr0
  have HC0 := Aside0.mk hc0
  clear hr0 hc0
  have HB := Aside0.mk (Below.refl w.heap.size w)
  have H : (entrepotref04_Put.l0 k l0 (([] : List (S38))) false 0 a1_0 a1_1) = some r := h
  clear h
  obtain ⟨y314, hy314⟩ : ∃ y_ : List (S38), y_ = (([] : List (S38))) := ⟨_, rfl⟩
  replace H : (entrepotref04_Put.l0 k l0 y314 false 0 a1_0 a1_1) = some r := by first | (rw [hy314]; with_reducible exact H) | (have H2_ := (Option.bind_some _ _).symm.trans H; rw [hy314]; with_reducible exact H2_) | (have H2_ := (Option.bind_some _ _).symm.trans H; with_reducible exact H2_) | with_reducible exact H | (rw [hy314]; exact H) | exact H
  have Ny314 := Aside0.mk hy314
  clear hy314
  have H' := Aside0.mk H
  clear H
  go_enter Tryz.func142, Tryz.ntmps142
  go_wp2_with (first | ((with_reducible refine gate_dst (N := 3) rfl ?_); refine bx (N := 3) (cs := #[.int .i64 a1_0, .int .i64 a1_1]) (t := 38) ?_; intro gb313 hg w3 hbox hb; have BK313 := am (hbox); have GW313 := am ((zz hg (zb HB))); have GE313 := am ((zz hg (zb HB))); replace HB := am (below_step (zb HB) hb); clear hb hbox hg) | ((with_reducible refine gate_dst (N := 8) rfl ?_); refine Kd.R_lit k38 _ 38 ?hg (N := 8) ?hd (xs := ([] : List (S38))) (inner := []) (ok := fun _ => True) (okp := fun _ => True) ?hr ?hp (fun _ hk => hk) trivial (Below.refl _ _) (Nat.le_refl _) (by simp) ?_; (case hd => rfl); (case hg => rfl); (case hr => first | (go_simp; done) | (go_simp; rfl)); (case hp => exact (Reps.none _ _)); intro v315 w4 ho5 hb hg_ hnew_; clear hg_ hnew_; (first | rw [← Ny314.out] at ho5 | (simp only [Int.reduceToNat] at ho5; rw [← Ny314.out] at ho5)); have HO316 := am (Kd.R_lower (Kd.R_newB ho5 (g := gb313) (o := .cells #[.int .i64 a1_0, .int .i64 a1_1] 38 (0, 0)) (zk BK313)) (below_size (zb HB))); replace BK313 := am (blk_below (zk BK313) hb); replace HB := am (below_step (zb HB) hb); clear hb ho5))
  go_loopg [5, 6, 7] k (fun kq v5 v6 v7 w' => ∃ (x5_1 : List (S38)) (x6_1 : Bool) (x7_1 : Int), v6 = .bool x6_1 ∧ v7 = .int .i64 x7_1 ∧ Aside0 (entrepotref04_Put.l0 kq l0 x5_1 x6_1 x7_1 a1_0 a1_1 = some r) ∧ Aside0 (kq ≤ k) ∧ Aside0 (Kd.R k38 38 w' w.heap.size (fun k_ => k_ ≠ gb313) v5 x5_1) ∧ Aside0 (w'.heap[gb313]? = some (.cells #[.int .i64 a1_0, .int .i64 a1_1] 38 (0, 0))) ∧ Aside0 (Below w.heap.size w w'))
  case atStart => exact ⟨(y314), (false), (0), zs, zs, H', ⟨Nat.le_refl _⟩, ⟨by (with_reducible repeat (first | apply Kd.R_alloc | apply Kd.R_drewN | apply Kd.R_drew)); exact Kd.R_mono HO316.out (fun _ hk => hk.2)⟩, ⟨zk BK313⟩, ⟨zb HB⟩⟩
  case round =>
    clear H'
    try clear c1
    try clear p2
    obtain ⟨x5_1, x6_1, x7_1, rfl, rfl, HA, HK1, HO_5, BK313, HB⟩ := hrel
    cases gk with
    | zero => exact absurd HA.out (by simp [entrepotref04_Put.l0])
    | succ k1 =>
      have H := HA.out
      clear HA
      simp only [entrepotref04_Put.l0] at H
      by_cases c6 : x7_1 < (l0.length : Int)
      · rw [if_pos c6] at H
        have c6b0 := decide_eq_true c6
        clear c6
        have HC7 := Aside0.mk H
        clear H
        go_upto_region 6 with (fail)
        go_cut [25] (fun v25 wc => ∃ (kq : Nat) (x25_6 : Bool), v25 = .bool x25_6 ∧ Aside0 (entrepotref04_Put.j1 kq l0 x5_1 x6_1 x7_1 x25_6 a1_0 a1_1 = some r) ∧ Aside0 (kq ≤ k1) ∧ Aside0 (Kd.R k38 38 wc w.heap.size (fun k_ => k_ ≠ gb313) u5 x5_1) ∧ Aside0 (wc.heap[gb313]? = some (.cells #[.int .i64 a1_0, .int .i64 a1_1] 38 (0, 0))) ∧ Aside0 (Below w.heap.size w wc))
        case first =>
          have H := HC7.out
          clear HC7
          by_cases c8 : x6_1 = true
          · subst c8
            rw [if_pos rfl] at H
            have H' := Aside0.mk H
            clear H
            try go_wp2
            replace HO_5 := am (Kd.R_drew HO_5.out)
            replace BK313 := am (blk_drew BK313.out)
            replace HB := am (below_drew1 HB.out)
            refine start_ (n := 11) (S := fun w' => True) (ds := []) #[false, false, false, false, false, false, false, false, false, false, false] (by kernel_rfl) rfl rfl trivial (fun hHeld => ?_); refine with_tabW entrepotref04_Put.tab6 entrepotref04_Put.bits6 (fun HT_ HW_ => ?_)
            generalize wr.drew = w9 at HO_5 BK313 HB hHeld ⊢
            refine pure_ (i := 0) (N := some 15) (v := ?_) (a' := ?_) (bz 11 1) rfl rfl (any_of HT_.out (by kernel_rfl)) (fun _ _ _ h => h) (Or.inl ⟨by rfl, ?_⟩) ?_ ?_
            rotate_left
            · intro w'
              go_simp
              with_reducible rfl
            rotate_left
            · simp only [Act.put, List.setIfInBounds_toArray, List.set_cons_zero, List.set_cons_succ, i64_w, i32_w]
              rfl
            refine pure_ (i := 1) (N := some 16) (v := ?_) (a' := ?_) (bz 11 3) rfl rfl (any_of HT_.out (by kernel_rfl)) (fun _ _ _ h => h) (Or.inl ⟨by rfl, ?_⟩) ?_ ?_
            rotate_left
            · intro w'
              go_simp
              with_reducible rfl
            rotate_left
            · simp only [Act.put, List.setIfInBounds_toArray, List.set_cons_zero, List.set_cons_succ, i64_w, i32_w]
              rfl
            refine pure_ (i := 2) (N := some 17) (v := ?_) (a' := ?_) (bz 11 7) rfl rfl (any_of HT_.out (by kernel_rfl)) (fun _ _ _ h => h) (Or.inl ⟨by rfl, ?_⟩) ?_ ?_
            rotate_left
            · intro w'
              go_simp
              with_reducible rfl
            rotate_left
            · simp only [Act.put, List.setIfInBounds_toArray, List.set_cons_zero, List.set_cons_succ, i64_w, i32_w]
              rfl
            refine pure_ (i := 3) (N := some 18) (v := undef) (a' := ?_) (bz 11 15) rfl rfl (any_of HT_.out (by kernel_rfl)) (fun _ _ _ h => h) (Or.inr ⟨by rfl, rfl⟩) ?_ ?_
            rotate_left
            · simp only [Act.put, List.setIfInBounds_toArray, List.set_cons_zero, List.set_cons_succ, i64_w, i32_w]
              rfl
            refine pure_ (i := 4) (N := some 19) (v := undef) (a' := ?_) (bz 11 31) rfl rfl (any_of HT_.out (by kernel_rfl)) (fun _ _ _ h => h) (Or.inr ⟨by rfl, rfl⟩) ?_ ?_
            rotate_left
            · simp only [Act.put, List.setIfInBounds_toArray, List.set_cons_zero, List.set_cons_succ, i64_w, i32_w]
              rfl
            refine pure_ (i := 5) (N := some 20) (v := undef) (a' := ?_) (bz 11 63) rfl rfl (any_of HT_.out (by kernel_rfl)) (fun _ _ _ h => h) (Or.inr ⟨by rfl, rfl⟩) ?_ ?_
            rotate_left
            · simp only [Act.put, List.setIfInBounds_toArray, List.set_cons_zero, List.set_cons_succ, i64_w, i32_w]
              rfl
            refine pure_ (i := 6) (N := some 21) (v := undef) (a' := ?_) (bz 11 127) rfl rfl (any_of HT_.out (by kernel_rfl)) (fun _ _ _ h => h) (Or.inr ⟨by rfl, rfl⟩) ?_ ?_
            rotate_left
            · simp only [Act.put, List.setIfInBounds_toArray, List.set_cons_zero, List.set_cons_succ, i64_w, i32_w]
              rfl
            refine pure_ (i := 7) (N := some 22) (v := undef) (a' := ?_) (bz 11 255) rfl rfl (any_of HT_.out (by kernel_rfl)) (fun _ _ _ h => h) (Or.inr ⟨by rfl, rfl⟩) ?_ ?_
            rotate_left
            · simp only [Act.put, List.setIfInBounds_toArray, List.set_cons_zero, List.set_cons_succ, i64_w, i32_w]
              rfl
            refine pure_ (i := 8) (N := some 23) (v := undef) (a' := ?_) (bz 11 511) rfl rfl (any_of HT_.out (by kernel_rfl)) (fun _ _ _ h => h) (Or.inr ⟨by rfl, rfl⟩) ?_ ?_
            rotate_left
            · simp only [Act.put, List.setIfInBounds_toArray, List.set_cons_zero, List.set_cons_succ, i64_w, i32_w]
              rfl
            refine pure_ (i := 9) (N := some 24) (v := undef) (a' := ?_) (bz 11 1023) rfl rfl (any_of HT_.out (by kernel_rfl)) (fun _ _ _ h => h) (Or.inr ⟨by rfl, rfl⟩) ?_ ?_
            rotate_left
            · simp only [Act.put, List.setIfInBounds_toArray, List.set_cons_zero, List.set_cons_succ, i64_w, i32_w]
              rfl
            refine pure_ (i := 10) (N := some 25) (v := ?_) (a' := ?_) (bz 11 2047) rfl rfl (any_of HT_.out (by kernel_rfl)) (fun _ _ _ h => h) (Or.inl ⟨by rfl, ?_⟩) ?_ ?_
            rotate_left
            · intro w'
              go_simp
              with_reducible rfl
            rotate_left
            · simp only [Act.put, List.setIfInBounds_toArray, List.set_cons_zero, List.set_cons_succ, i64_w, i32_w]
              rfl
            refine done_ (done_of HT_.out (by kernel_rfl)) ?_
            try go_wp2
            go_meet
            case rel => exact ⟨_, (false), zs, H', ⟨by have := HK1.out; first | omega | exact Nat.le_refl _⟩, ⟨zr HO_5⟩, ⟨zk BK313⟩, ⟨zb HB⟩⟩
          · replace c8 := Bool.eq_false_iff.mpr c8
            subst c8
            rw [if_neg (show ¬ (false = true) by decide)] at H
            by_cases c10 : 0 ≤ x7_1
            · rw [if_pos c10] at H
              have c10b0 := decide_eq_true c10
              clear c10
              (first | rw [c10b0] | (simp only [i64_w, i32_w]; rw [c10b0]) | skip)
              replace H := Option.bind_eq_some_iff.mp H
              obtain ⟨t327, A110, H⟩ := H
              have A11 := Aside0.mk A110
              clear A110
              have H' := Aside0.mk H
              clear H
              try go_wp2
              replace HO_5 := am (Kd.R_drew HO_5.out)
              replace BK313 := am (blk_drew BK313.out)
              replace HB := am (below_drew1 HB.out)
              have p326 : 0 ≤ (x7_1 : Int) := of_decide_eq_true za
              have q326 : x7_1 < (l0.length : Int) := of_decide_eq_true za
              obtain ⟨ad326, e326, hx326_0, hx326_1⟩ := at_T38 HR0.out x7_1 p326 q326
              have hw326_1 := hx326_1
              have hw326_0 := hx326_0
              cases e326
              replace hx326_0 := zx HB hx326_0
              replace hx326_1 := zx HB hx326_1
              replace p326 := eq_true p326
              replace q326 := eq_true q326
              refine start_ (n := 11) (S := fun w' => w'.cell? ⟨gb313, 0, none⟩ = some (.int .i64 a1_0) ∧ w'.cell? ⟨gb313, 1, none⟩ = some (.int .i64 a1_1) ∧ w'.cell? (ad326.add ((x7_1).toNat * 2)) = some (.int .i64 ((rd_T38 l0 x7_1).f0)) ∧ w'.cell? ⟨(ad326.add ((x7_1).toNat * 2)).block, (ad326.add ((x7_1).toNat * 2)).off + 1, none⟩ = some (.int .i64 ((rd_T38 l0 x7_1).f1))) (ds := []) #[false, false, false, false, false, false, false, false, false, false, false] (by kernel_rfl) rfl rfl ⟨(blk_cell BK313.out 0).trans rfl, (blk_cell BK313.out 1).trans rfl, ((HB.out.cell (World.block_lt_of_cell? w _ hw326_0)).trans hw326_0), ((HB.out.cell (World.block_lt_of_cell? w _ hw326_1)).trans hw326_1)⟩ (fun hHeld => ?_); refine with_tabW entrepotref04_Put.tab6 entrepotref04_Put.bits6 (fun HT_ HW_ => ?_)
              generalize wr.drew = w12 at HO_5 BK313 HB hx326_0 hx326_1 hHeld ⊢
              refine pure_ (i := 0) (N := some 15) (v := ?_) (a' := ?_) (bz 11 1) rfl rfl (any_of HT_.out (by kernel_rfl)) (fun _ _ _ h => h) (Or.inl ⟨by rfl, ?_⟩) ?_ ?_
              rotate_left
              · intro w'
                go_simp
                with_reducible rfl
              rotate_left
              · simp only [Act.put, List.setIfInBounds_toArray, List.set_cons_zero, List.set_cons_succ, i64_w, i32_w]
                rfl
              refine pure_ (i := 1) (N := some 16) (v := ?_) (a' := ?_) (bz 11 3) rfl rfl (any_of HT_.out (by kernel_rfl)) (fun _ _ _ h => h) (Or.inl ⟨by rfl, ?_⟩) ?_ ?_
              rotate_left
              · intro w'
                go_simp
                with_reducible rfl
              rotate_left
              · simp only [Act.put, List.setIfInBounds_toArray, List.set_cons_zero, List.set_cons_succ, i64_w, i32_w]
                rfl
              refine pure_ (i := 2) (N := some 17) (v := ?_) (a' := ?_) (bz 11 7) rfl rfl (any_of HT_.out (by kernel_rfl)) (fun _ _ _ h => h) (Or.inl ⟨by rfl, ?_⟩) ?_ ?_
              rotate_left
              · intro w'
                go_simp
                with_reducible rfl
              rotate_left
              · simp only [Act.put, List.setIfInBounds_toArray, List.set_cons_zero, List.set_cons_succ, i64_w, i32_w]
                rfl
              refine pure_ (i := 3) (N := some 18) (v := ?_) (a' := ?_) (bz 11 15) rfl rfl (any_of HT_.out (by kernel_rfl)) (fun _ _ _ h => h) (Or.inl ⟨by rfl, ?_⟩) ?_ ?_
              rotate_left
              · intro w'
                go_simp
                with_reducible rfl
              rotate_left
              · simp only [Act.put, List.setIfInBounds_toArray, List.set_cons_zero, List.set_cons_succ, i64_w, i32_w]
                rfl
              refine pure_ (i := 4) (N := some 19) (v := ?_) (a' := ?_) (bz 11 31) rfl rfl (any_of HT_.out (by kernel_rfl)) (fun _ _ _ h => h) (Or.inl ⟨by rfl, ?_⟩) ?_ ?_
              rotate_left
              · intro w'
                go_simp
                with_reducible rfl
              rotate_left
              · simp only [Act.put, List.setIfInBounds_toArray, List.set_cons_zero, List.set_cons_succ, i64_w, i32_w]
                rfl
              refine pure_ (i := 5) (N := some 20) (v := ?_) (a' := ?_) (bz 11 63) rfl rfl (any_of HT_.out (by kernel_rfl)) (fun _ _ _ h => h) (Or.inl ⟨by rfl, ?_⟩) ?_ ?_
              rotate_left
              · intro w'
                go_simp
                with_reducible rfl
              rotate_left
              · simp only [Act.put, List.setIfInBounds_toArray, List.set_cons_zero, List.set_cons_succ, i64_w, i32_w]
                rfl
              refine take_ (i := 6) (N := some 21) (v := ?_) (a' := ?_) (bz 11 127) rfl rfl (take_ofW HT_.out HW_.out (by kernel_rfl)) (fun _ _ _ h => h) (Or.inl ⟨by rfl, ?_⟩) hHeld ?_ ?_
              rotate_left
              · rintro w' ⟨s0, s1, s2, s3⟩
                go_simp
                with_reducible rfl
              rotate_left
              · simp only [Act.put, List.setIfInBounds_toArray, List.set_cons_zero, List.set_cons_succ, i64_w, i32_w]
                rfl
              refine take_ (i := 7) (N := some 22) (v := ?_) (a' := ?_) (bz 11 255) rfl rfl (take_ofW HT_.out HW_.out (by kernel_rfl)) (fun _ _ _ h => h) (Or.inl ⟨by rfl, ?_⟩) hHeld ?_ ?_
              rotate_left
              · rintro w' ⟨s0, s1, s2, s3⟩
                go_simp
                with_reducible rfl
              rotate_left
              · simp only [Act.put, List.setIfInBounds_toArray, List.set_cons_zero, List.set_cons_succ, i64_w, i32_w]
                rfl
              refine one_ (i := 8) (N := some 23) (bz 11 511) rfl rfl (one_of HT_.out (by kernel_rfl)) (by decide) (fun K hK => ?_)
              refine goes_ Tryz.func185 (by kernel_rfl) rfl #[.agg #[.int .i64 ((rd_T38 l0 x7_1).f0), .int .i64 ((rd_T38 l0 x7_1).f1)], .agg #[.int .i64 a1_0, .int .i64 a1_1]] (by rfl) rfl rfl (by (try simp only [List.map_toArray, List.map_cons, List.map_nil]); first | done | rfl | (simp only [List.length_drop, List.length_take]; rfl)) ?_
              with_reducible refine (entrepotref04_Less.calls ((rd_T38 l0 x7_1).f0) ((rd_T38 l0 x7_1).f1) a1_0 a1_1 t327 _ A11.out).mono ?_
              rintro e w13 ⟨rfl, hb⟩
              refine ⟨_, rfl, ?_⟩
              replace HO_5 := am (Kd.R_below (zr HO_5) hb)
              replace BK313 := am (blk_below (zk BK313) hb)
              replace HB := am (below_step (zb HB) hb)
              (try clear hb)
              (try clear hb2)
              (try clear hk)
              (try clear hi)
              refine hK.out _ _ ⟨(blk_cell BK313.out 0).trans rfl, (blk_cell BK313.out 1).trans rfl, ((HB.out.cell (World.block_lt_of_cell? w _ hw326_0)).trans hw326_0), ((HB.out.cell (World.block_lt_of_cell? w _ hw326_1)).trans hw326_1)⟩ (fun hHeld => ?_)
              clear hK K
              refine nz (N := some 23) ?_
              refine pure_ (i := 9) (N := some 24) (v := ?_) (a' := ?_) (bz 11 1023) rfl rfl (any_of HT_.out (by kernel_rfl)) (fun _ _ _ h => h) (Or.inl ⟨by rfl, ?_⟩) ?_ ?_
              rotate_left
              · intro w'
                go_simp
                with_reducible rfl
              rotate_left
              · simp only [Act.put, List.setIfInBounds_toArray, List.set_cons_zero, List.set_cons_succ, i64_w, i32_w]
                rfl
              refine pure_ (i := 10) (N := some 25) (v := ?_) (a' := ?_) (bz 11 2047) rfl rfl (any_of HT_.out (by kernel_rfl)) (fun _ _ _ h => h) (Or.inl ⟨by rfl, ?_⟩) ?_ ?_
              rotate_left
              · intro w'
                go_simp
                with_reducible rfl
              rotate_left
              · simp only [Act.put, List.setIfInBounds_toArray, List.set_cons_zero, List.set_cons_succ, i64_w, i32_w]
                rfl
              refine done_ (done_of HT_.out (by kernel_rfl)) ?_
              try go_wp2
              go_meet
              case rel => exact ⟨_, (!t327), zs, H', ⟨by have := HK1.out; first | omega | exact Nat.le_refl _⟩, ⟨zr HO_5⟩, ⟨zk BK313⟩, ⟨zb HB⟩⟩
            · rw [if_neg c10] at H
              exact absurd H (by simp)
        case rest =>
          clear HC7
          try clear c1
          try clear p2
          try clear p3
          try clear q3
          try clear hx3
          try clear c6
          try clear c6b0
          try clear c8
          try clear c10
          try clear c10b0
          try clear hx326_0
          try clear hx326_1
          try clear p2
          try clear p326
          try clear q326
          obtain ⟨kq, x25_6, rfl, HA, HJ6, HO_5, BK313, HB⟩ := hcut
          cases kq with
          | zero => exact absurd HA.out (by simp [entrepotref04_Put.j1])
          | succ kj6 =>
            have H := HA.out
            clear HA
            simp only [entrepotref04_Put.j1] at H
            by_cases c14 : x25_6 = true
            · subst c14
              rw [if_pos rfl] at H
              by_cases c15 : x5_1.length < 8796093022208
              · rw [if_pos c15] at H
                have LMc15 := Aside0.mk c15
                clear c15
                obtain ⟨y328, hy328⟩ : ∃ y_ : List (S38), y_ = (x5_1 ++ [(⟨a1_0, a1_1⟩ : S38)]) := ⟨_, rfl⟩
                replace H : (if 0 ≤ x7_1 then (if x7_1 < (l0.length : Int) then (if (((rd_T38 l0 x7_1).f0) == a1_0 && (((rd_T38 l0 x7_1).f1) == a1_1)) = true then (entrepotref04_Put.l0 kj6 l0 y328 true (wrap64 (x7_1 + 1)) a1_0 a1_1) else (if y328.length < 8796093022208 then (entrepotref04_Put.l0 kj6 l0 (y328 ++ [(⟨(rd_T38 l0 x7_1).f0, (rd_T38 l0 x7_1).f1⟩ : S38)]) true (wrap64 (x7_1 + 1)) a1_0 a1_1) else (none))) else (none)) else (none)) = some r := by first | (rw [hy328]; with_reducible exact H) | (have H2_ := (Option.bind_some _ _).symm.trans H; rw [hy328]; with_reducible exact H2_) | (have H2_ := (Option.bind_some _ _).symm.trans H; with_reducible exact H2_) | with_reducible exact H | (rw [hy328]; exact H) | exact H
                have Ny328 := Aside0.mk hy328
                clear hy328
                by_cases c16 : 0 ≤ x7_1
                · rw [if_pos c16] at H
                  have c16b0 := decide_eq_true c16
                  clear c16
                  by_cases c17 : x7_1 < (l0.length : Int)
                  · rw [if_pos c17] at H
                    have c17b0 := decide_eq_true c17
                    clear c17
                    by_cases c18 : (((rd_T38 l0 x7_1).f0) == a1_0 && (((rd_T38 l0 x7_1).f1) == a1_1)) = true
                    · rw [if_pos c18] at H
                      have c18b0 : (((rd_T38 l0 x7_1).f0) == a1_0 && (((rd_T38 l0 x7_1).f1) == a1_1)) = true := c18
                      (try (have c18b1 : decide (((rd_T38 l0 x7_1).f0) = a1_0 && (((rd_T38 l0 x7_1).f1) == a1_1)) = true := by simpa using c18))
                      (try (have c18b2 : (((rd_T38 l0 x7_1).f0) == a1_0 && (((rd_T38 l0 x7_1).f1) == a1_1)) = true := by simpa using c18))
                      clear c18
                      have H' := Aside0.mk H
                      clear H
                      obtain ⟨hcz19_0, hcz19_1, hfz19_0, hfz19_1⟩ := cz2 BK313
                      try go_wp2_with (first | ((with_reducible refine gate_builtin (b := .append) (xs := #[.tmp 26, .tmp 28]) rfl ?_); at_builtin; refine Kd.R_append k38 (w0 := w) w.heap.size rfl (.tmp 26) (.tmp 28) 32 38 (.agg #[(.int .i64 0), (.int .i64 0)]) 16 rfl Tryz.underlying32 info38 rfl (by decide) (by omega) u5 x5_1 (⟨a1_0, a1_1⟩ : S38) [.int .i64 a1_0, .int .i64 a1_1] (fun k_ => k_ ≠ gb313) (fun _ => False) rfl rfl ?aP (fun _ hk => hk.elim) ?aF ?aO ?aB ?aS ?aL ?_; (case aP => exact k38_mkM _ _ _ (⟨a1_0, a1_1⟩ : S38)); (case aB => exact (zb HB)); (case aF => exact (fun k_ hk => Kd.freshB (g := gb313) (o := .cells #[.int .i64 a1_0, .int .i64 a1_1] 38 (0, 0)) (zk BK313) k_ hk)); (case aO => exact (zr HO_5)); (case aS => exact (below_size (zb HB))); (case aL => have := LMc15.out; omega); intro v329 w20 ho hb hg hat; rw [← Ny328.out] at ho; replace BK313 := am (blk_grown (zk BK313) hg (Kd.R_away HO_5.out (fun _ hk => hk))); replace HB := am (hb); have HO330 := am (ho); clear HO_5; clear ho hb hg hat))
                      replace HO330 := am (Kd.R_drew HO330.out)
                      replace BK313 := am (blk_drew BK313.out)
                      replace HB := am (below_drew1 HB.out)
                      have p331 : 0 ≤ (x7_1 : Int) := of_decide_eq_true za
                      have q331 : x7_1 < (l0.length : Int) := of_decide_eq_true za
                      obtain ⟨ad331, e331, hx331_0, hx331_1⟩ := at_T38 HR0.out x7_1 p331 q331
                      have hw331_1 := hx331_1
                      have hw331_0 := hx331_0
                      cases e331
                      replace hx331_0 := zx HB hx331_0
                      replace hx331_1 := zx HB hx331_1
                      replace p331 := eq_true p331
                      replace q331 := eq_true q331
                      refine start_ (n := 6) (S := fun w' => w'.cell? ⟨gb313, 0, none⟩ = some (.int .i64 a1_0) ∧ w'.cell? ⟨gb313, 1, none⟩ = some (.int .i64 a1_1) ∧ w'.cell? (ad331.add ((x7_1).toNat * 2)) = some (.int .i64 ((rd_T38 l0 x7_1).f0)) ∧ w'.cell? ⟨(ad331.add ((x7_1).toNat * 2)).block, (ad331.add ((x7_1).toNat * 2)).off + 1, none⟩ = some (.int .i64 ((rd_T38 l0 x7_1).f1))) (ds := []) #[false, false, false, false, false, false] (by kernel_rfl) rfl rfl ⟨(blk_cell BK313.out 0).trans rfl, (blk_cell BK313.out 1).trans rfl, ((HB.out.cell (World.block_lt_of_cell? w _ hw331_0)).trans hw331_0), ((HB.out.cell (World.block_lt_of_cell? w _ hw331_1)).trans hw331_1)⟩ (fun hHeld => ?_)
                      generalize w20.drew = w21 at HO330 BK313 HB hx331_0 hx331_1 hHeld ⊢
                      refine pz (i := 0) (N := some 30) (bz 6 1) ?_
                      refine pz (i := 1) (N := some 31) (bz 6 3) ?_
                      refine pz (i := 2) (N := some 32) (bz 6 7) ?_
                      refine tz (i := 3) (N := some 33) (bz 6 15) hHeld ?_
                      refine tz (i := 4) (N := some 34) (bz 6 31) hHeld ?_
                      refine pz (i := 5) (N := some 35) (bz 6 63) ?_
                      refine done_ (by kernel_rfl) ?_
                      try go_wp2
                      go_roundg kj6
                      case measure => have := HK1.out; have := HJ6.out; omega
                      case rel => exact ⟨(y328), (true), (wrap64 (x7_1 + 1)), zs, zs, H', ⟨by have := HK1.out; have := HJ6.out; omega⟩, ⟨zr HO330⟩, ⟨zk BK313⟩, ⟨zb HB⟩⟩
                    · rw [if_neg c18] at H
                      have c18b0 : (((rd_T38 l0 x7_1).f0) == a1_0 && (((rd_T38 l0 x7_1).f1) == a1_1)) = false := by simpa using c18
                      (try (have c18b1 : decide (((rd_T38 l0 x7_1).f0) = a1_0 && (((rd_T38 l0 x7_1).f1) == a1_1)) = false := by simpa using c18))
                      (try (have c18b2 : (((rd_T38 l0 x7_1).f0) == a1_0 && (((rd_T38 l0 x7_1).f1) == a1_1)) = false := by simpa using c18))
                      (try (have c18b3 : ¬ (((rd_T38 l0 x7_1).f0) = a1_0 && (((rd_T38 l0 x7_1).f1) == a1_1)) := by simpa using c18))
                      clear c18
                      by_cases c22 : y328.length < 8796093022208
                      · rw [if_pos c22] at H
                        have LMc22 := Aside0.mk c22
                        clear c22
                        obtain ⟨y333, hy333⟩ : ∃ y_ : List (S38), y_ = (y328 ++ [(⟨(rd_T38 l0 x7_1).f0, (rd_T38 l0 x7_1).f1⟩ : S38)]) := ⟨_, rfl⟩
                        replace H : (entrepotref04_Put.l0 kj6 l0 y333 true (wrap64 (x7_1 + 1)) a1_0 a1_1) = some r := by first | (rw [hy333]; with_reducible exact H) | (have H2_ := (Option.bind_some _ _).symm.trans H; rw [hy333]; with_reducible exact H2_) | (have H2_ := (Option.bind_some _ _).symm.trans H; with_reducible exact H2_) | with_reducible exact H | (rw [hy333]; exact H) | exact H
                        have Ny333 := Aside0.mk hy333
                        clear hy333
                        have H' := Aside0.mk H
                        clear H
                        obtain ⟨hcz23_0, hcz23_1, hfz23_0, hfz23_1⟩ := cz2 BK313
                        try go_wp2_with (first | ((with_reducible refine gate_builtin (b := .append) (xs := #[.tmp 26, .tmp 28]) rfl ?_); at_builtin; refine Kd.R_append k38 (w0 := w) w.heap.size rfl (.tmp 26) (.tmp 28) 32 38 (.agg #[(.int .i64 0), (.int .i64 0)]) 16 rfl Tryz.underlying32 info38 rfl (by decide) (by omega) u5 x5_1 (⟨a1_0, a1_1⟩ : S38) [.int .i64 a1_0, .int .i64 a1_1] (fun k_ => k_ ≠ gb313) (fun _ => False) rfl rfl ?aP (fun _ hk => hk.elim) ?aF ?aO ?aB ?aS ?aL ?_; (case aP => exact k38_mkM _ _ _ (⟨a1_0, a1_1⟩ : S38)); (case aB => exact (zb HB)); (case aF => exact (fun k_ hk => Kd.freshB (g := gb313) (o := .cells #[.int .i64 a1_0, .int .i64 a1_1] 38 (0, 0)) (zk BK313) k_ hk)); (case aO => exact (zr HO_5)); (case aS => exact (below_size (zb HB))); (case aL => have := LMc15.out; omega); intro v329 w24 ho hb hg hat; rw [← Ny328.out] at ho; replace BK313 := am (blk_grown (zk BK313) hg (Kd.R_away HO_5.out (fun _ hk => hk))); replace HB := am (hb); have HO330 := am (ho); clear HO_5; clear ho hb hg hat))
                        replace HO330 := am (Kd.R_drew HO330.out)
                        replace BK313 := am (blk_drew BK313.out)
                        replace HB := am (below_drew1 HB.out)
                        have p331 : 0 ≤ (x7_1 : Int) := of_decide_eq_true za
                        have q331 : x7_1 < (l0.length : Int) := of_decide_eq_true za
                        obtain ⟨ad331, e331, hx331_0, hx331_1⟩ := at_T38 HR0.out x7_1 p331 q331
                        have hw331_1 := hx331_1
                        have hw331_0 := hx331_0
                        cases e331
                        replace hx331_0 := zx HB hx331_0
                        replace hx331_1 := zx HB hx331_1
                        replace p331 := eq_true p331
                        replace q331 := eq_true q331
                        refine start_ (n := 6) (S := fun w' => w'.cell? ⟨gb313, 0, none⟩ = some (.int .i64 a1_0) ∧ w'.cell? ⟨gb313, 1, none⟩ = some (.int .i64 a1_1) ∧ w'.cell? (ad331.add ((x7_1).toNat * 2)) = some (.int .i64 ((rd_T38 l0 x7_1).f0)) ∧ w'.cell? ⟨(ad331.add ((x7_1).toNat * 2)).block, (ad331.add ((x7_1).toNat * 2)).off + 1, none⟩ = some (.int .i64 ((rd_T38 l0 x7_1).f1))) (ds := []) #[false, false, false, false, false, false] (by kernel_rfl) rfl rfl ⟨(blk_cell BK313.out 0).trans rfl, (blk_cell BK313.out 1).trans rfl, ((HB.out.cell (World.block_lt_of_cell? w _ hw331_0)).trans hw331_0), ((HB.out.cell (World.block_lt_of_cell? w _ hw331_1)).trans hw331_1)⟩ (fun hHeld => ?_)
                        generalize w24.drew = w25 at HO330 BK313 HB hx331_0 hx331_1 hHeld ⊢
                        refine pz (i := 0) (N := some 30) (bz 6 1) ?_
                        refine pz (i := 1) (N := some 31) (bz 6 3) ?_
                        refine pz (i := 2) (N := some 32) (bz 6 7) ?_
                        refine tz (i := 3) (N := some 33) (bz 6 15) hHeld ?_
                        refine tz (i := 4) (N := some 34) (bz 6 31) hHeld ?_
                        refine pz (i := 5) (N := some 35) (bz 6 63) ?_
                        refine done_ (by kernel_rfl) ?_
                        have p332 : 0 ≤ (x7_1 : Int) := of_decide_eq_true za
                        have q332 : x7_1 < (l0.length : Int) := of_decide_eq_true za
                        obtain ⟨ad332, e332, hx332_0, hx332_1⟩ := at_T38 HR0.out x7_1 p332 q332
                        obtain rfl : ad331 = ad332 := (by injection e332)
                        replace hx332_0 := zx HB hx332_0
                        replace hx332_1 := zx HB hx332_1
                        replace p332 := eq_true p332
                        replace q332 := eq_true q332
                        try go_wp2_with (first | ((with_reducible refine gate_builtin (b := .append) (xs := #[.tmp 36, .tmp 41]) rfl ?_); at_builtin; refine Kd.R_append k38 (w0 := w) w.heap.size rfl (.tmp 36) (.tmp 41) 32 38 (.agg #[(.int .i64 0), (.int .i64 0)]) 16 rfl Tryz.underlying32 info38 rfl (by decide) (by omega) v329 y328 (⟨(rd_T38 l0 x7_1).f0, (rd_T38 l0 x7_1).f1⟩ : S38) [.int .i64 ((rd_T38 l0 x7_1).f0), .int .i64 ((rd_T38 l0 x7_1).f1)] (fun k_ => k_ ≠ gb313) (fun _ => False) rfl rfl ?aP (fun _ hk => hk.elim) ?aF ?aO ?aB ?aS ?aL ?_; (case aP => exact k38_mkM _ _ _ (⟨(rd_T38 l0 x7_1).f0, (rd_T38 l0 x7_1).f1⟩ : S38)); (case aB => exact (zb HB)); (case aF => exact (fun k_ hk => Kd.freshB (g := gb313) (o := .cells #[.int .i64 a1_0, .int .i64 a1_1] 38 (0, 0)) (zk BK313) k_ hk)); (case aO => exact (zr HO330)); (case aS => exact (below_size (zb HB))); (case aL => have := LMc22.out; omega); intro v334 w26 ho hb hg hat; rw [← Ny333.out] at ho; replace BK313 := am (blk_grown (zk BK313) hg (Kd.R_away HO330.out (fun _ hk => hk))); replace HB := am (hb); have HO335 := am (ho); clear HO330; clear ho hb hg hat))
                        go_roundg kj6
                        case measure => have := HK1.out; have := HJ6.out; omega
                        case rel => exact ⟨(y333), (true), (wrap64 (x7_1 + 1)), zs, zs, H', ⟨by have := HK1.out; have := HJ6.out; omega⟩, ⟨zr HO335⟩, ⟨zk BK313⟩, ⟨zb HB⟩⟩
                      · rw [if_neg c22] at H
                        exact absurd H (by simp)
                  · rw [if_neg c17] at H
                    exact absurd H (by simp)
                · rw [if_neg c16] at H
                  exact absurd H (by simp)
              · rw [if_neg c15] at H
                exact absurd H (by simp)
            · replace c14 := Bool.eq_false_iff.mpr c14
              subst c14
              rw [if_neg (show ¬ (false = true) by decide)] at H
              by_cases c27 : 0 ≤ x7_1
              · rw [if_pos c27] at H
                have c27b0 := decide_eq_true c27
                clear c27
                by_cases c28 : x7_1 < (l0.length : Int)
                · rw [if_pos c28] at H
                  have c28b0 := decide_eq_true c28
                  clear c28
                  by_cases c29 : x5_1.length < 8796093022208
                  · rw [if_pos c29] at H
                    have LMc29 := Aside0.mk c29
                    clear c29
                    obtain ⟨y337, hy337⟩ : ∃ y_ : List (S38), y_ = (x5_1 ++ [(⟨(rd_T38 l0 x7_1).f0, (rd_T38 l0 x7_1).f1⟩ : S38)]) := ⟨_, rfl⟩
                    replace H : (entrepotref04_Put.l0 kj6 l0 y337 x6_1 (wrap64 (x7_1 + 1)) a1_0 a1_1) = some r := by first | (rw [hy337]; with_reducible exact H) | (have H2_ := (Option.bind_some _ _).symm.trans H; rw [hy337]; with_reducible exact H2_) | (have H2_ := (Option.bind_some _ _).symm.trans H; with_reducible exact H2_) | with_reducible exact H | (rw [hy337]; exact H) | exact H
                    have Ny337 := Aside0.mk hy337
                    clear hy337
                    have H' := Aside0.mk H
                    clear H
                    have p336 : 0 ≤ (x7_1 : Int) := of_decide_eq_true za
                    have q336 : x7_1 < (l0.length : Int) := of_decide_eq_true za
                    obtain ⟨ad336, e336, hx336_0, hx336_1⟩ := at_T38 HR0.out x7_1 p336 q336
                    cases e336
                    replace hx336_0 := zx HB hx336_0
                    replace hx336_1 := zx HB hx336_1
                    replace p336 := eq_true p336
                    replace q336 := eq_true q336
                    go_wp2_with (first | ((with_reducible refine gate_builtin (b := .append) (xs := #[.tmp 36, .tmp 41]) rfl ?_); at_builtin; refine Kd.R_append k38 (w0 := w) w.heap.size rfl (.tmp 36) (.tmp 41) 32 38 (.agg #[(.int .i64 0), (.int .i64 0)]) 16 rfl Tryz.underlying32 info38 rfl (by decide) (by omega) u5 x5_1 (⟨(rd_T38 l0 x7_1).f0, (rd_T38 l0 x7_1).f1⟩ : S38) [.int .i64 ((rd_T38 l0 x7_1).f0), .int .i64 ((rd_T38 l0 x7_1).f1)] (fun k_ => k_ ≠ gb313) (fun _ => False) rfl rfl ?aP (fun _ hk => hk.elim) ?aF ?aO ?aB ?aS ?aL ?_; (case aP => exact k38_mkM _ _ _ (⟨(rd_T38 l0 x7_1).f0, (rd_T38 l0 x7_1).f1⟩ : S38)); (case aB => exact (zb HB)); (case aF => exact (fun k_ hk => Kd.freshB (g := gb313) (o := .cells #[.int .i64 a1_0, .int .i64 a1_1] 38 (0, 0)) (zk BK313) k_ hk)); (case aO => exact (zr HO_5)); (case aS => exact (below_size (zb HB))); (case aL => have := LMc29.out; omega); intro v338 w30 ho hb hg hat; rw [← Ny337.out] at ho; replace BK313 := am (blk_grown (zk BK313) hg (Kd.R_away HO_5.out (fun _ hk => hk))); replace HB := am (hb); have HO339 := am (ho); clear HO_5; clear ho hb hg hat))
                    go_roundg kj6
                    case measure => have := HK1.out; have := HJ6.out; omega
                    case rel => exact ⟨(y337), (x6_1), (wrap64 (x7_1 + 1)), zs, zs, H', ⟨by have := HK1.out; have := HJ6.out; omega⟩, ⟨zr HO339⟩, ⟨zk BK313⟩, ⟨zb HB⟩⟩
                  · rw [if_neg c29] at H
                    exact absurd H (by simp)
                · rw [if_neg c28] at H
                  exact absurd H (by simp)
              · rw [if_neg c27] at H
                exact absurd H (by simp)
      · rw [if_neg c6] at H
        have c6b0 := decide_eq_false c6
        clear c6
        by_cases c31 : x6_1 = true
        · subst c31
          rw [if_pos rfl] at H
          obtain ⟨ji32, hji32⟩ : ∃ j_ : Int, (mn (x5_1.length : Int) 16) = j_ := ⟨_, rfl⟩
          replace H : (if 0 ≤ (ji32) then (if (ji32) ≤ (x5_1.length : Int) then (some (x5_1.take ((ji32) : Int).toNat)) else (none)) else (none)) = some r := by first | (rw [hji32] at H; exact H) | (simp only [hji32] at H ⊢; exact H)
          have hji32_ : (if 16 < (x5_1.length : Int) then 16 else (x5_1.length : Int)) = ji32 := hji32
          by_cases c33 : 0 ≤ (ji32)
          · rw [if_pos c33] at H
            have c33b0 := eq_true c33
            have c33b1 := decide_eq_true c33
            clear c33
            by_cases c34 : (ji32) ≤ (x5_1.length : Int)
            · rw [if_pos c34] at H
              have c34b0 := eq_true c34
              have c34b1 := decide_eq_true c34
              clear c34
              obtain ⟨y317, hy317⟩ : ∃ y_ : List (S38), y_ = (x5_1.take ((ji32) : Int).toNat) := ⟨_, rfl⟩
              replace H : (some y317) = some r := by first | (rw [hy317]; with_reducible exact H) | (have H2_ := (Option.bind_some _ _).symm.trans H; rw [hy317]; with_reducible exact H2_) | (have H2_ := (Option.bind_some _ _).symm.trans H; with_reducible exact H2_) | with_reducible exact H | (rw [hy317]; exact H) | exact H
              have Ny317 := Aside0.mk hy317
              clear hy317
              obtain rfl := Option.some.inj H
              obtain ⟨Ao35, co35, eo35⟩ := Kd.R_slice HO_5.out
              subst eo35
              have q36 : ((ji32) : Int) ≤ ((x5_1.length : Int) : Int) := of_decide_eq_true za
              obtain ⟨i036, hi036, _, hsz36, _⟩ := info_parts info38
              have hcut36 := cut_to (P := Tryz.prog) 32 38 .i64 Tryz.underlying32 hi036 Ao35 x5_1.length co35 (ji32) (of_decide_eq_true za) q36 (Kd.R_reads' HO_5.out).2.1
              have hr36 := Kd.R_take (m := ((ji32) : Int).toNat) HO_5.out (by omega)
              have hy36 : y317.length = ((ji32) : Int).toNat := (by rw [Ny317.out, List.length_take]; omega)
              rw [← Ny317.out] at hr36
              rw [← hy36] at hr36 hcut36
              clear hy36 hi036 hsz36 HO_5
              have HO319 := Aside0.mk hr36
              clear hr36
              replace q36 := eq_true q36
              go_wp2
              go_ret
              exact ⟨_, by first | rfl | (simp [errW_none, errW_some] <;> rfl) | (simp only [← hji32]; first | rfl | (simp [errW_none, errW_some] <;> rfl)) | (simp [*, errW_none, errW_some] <;> rfl), by (with_reducible repeat (first | apply Kd.R_alloc | apply Kd.R_drewN | apply Kd.R_drew)); exact Kd.R_mono HO319.out (fun _ hk => trivial), zb HB⟩
            · rw [if_neg c34] at H
              exact absurd H (by simp)
          · rw [if_neg c33] at H
            exact absurd H (by simp)
        · replace c31 := Bool.eq_false_iff.mpr c31
          subst c31
          rw [if_neg (show ¬ (false = true) by decide)] at H
          by_cases c37 : x5_1.length < 8796093022208
          · rw [if_pos c37] at H
            have LMc37 := Aside0.mk c37
            clear c37
            obtain ⟨y320, hy320⟩ : ∃ y_ : List (S38), y_ = (x5_1 ++ [(⟨a1_0, a1_1⟩ : S38)]) := ⟨_, rfl⟩
            replace H : (if 0 ≤ (mn (y320.length : Int) 16) then (if (mn (y320.length : Int) 16) ≤ (y320.length : Int) then (some (y320.take ((mn (y320.length : Int) 16) : Int).toNat)) else (none)) else (none)) = some r := by first | (rw [hy320]; with_reducible exact H) | (have H2_ := (Option.bind_some _ _).symm.trans H; rw [hy320]; with_reducible exact H2_) | (have H2_ := (Option.bind_some _ _).symm.trans H; with_reducible exact H2_) | with_reducible exact H | (rw [hy320]; exact H) | exact H
            have Ny320 := Aside0.mk hy320
            clear hy320
            obtain ⟨ji38, hji38⟩ : ∃ j_ : Int, (mn (y320.length : Int) 16) = j_ := ⟨_, rfl⟩
            replace H : (if 0 ≤ (ji38) then (if (ji38) ≤ (y320.length : Int) then (some (y320.take ((ji38) : Int).toNat)) else (none)) else (none)) = some r := by first | (rw [hji38] at H; exact H) | (simp only [hji38] at H ⊢; exact H)
            (try (have hji38h : ji38 ≤ 16 := by (rw [← hji38]; unfold mn; (repeat' split) <;> omega)))
            (try (have hji38g : ji38 ≤ 64 := by omega))
            (try (have hji38l : 0 ≤ ji38 := by (rw [← hji38]; unfold mn; (repeat' split) <;> omega)))
            (try (have hji38m : 0 ≤ ji38 := by omega))
            have hji38_ : (if 16 < (y320.length : Int) then 16 else (y320.length : Int)) = ji38 := hji38
            by_cases c39 : 0 ≤ (ji38)
            · rw [if_pos c39] at H
              have c39b0 := eq_true c39
              have c39b1 := decide_eq_true c39
              clear c39
              by_cases c40 : (ji38) ≤ (y320.length : Int)
              · rw [if_pos c40] at H
                have c40b0 := eq_true c40
                have c40b1 := decide_eq_true c40
                clear c40
                obtain ⟨y323, hy323⟩ : ∃ y_ : List (S38), y_ = (y320.take ((ji38) : Int).toNat) := ⟨_, rfl⟩
                replace H : (some y323) = some r := by first | (rw [hy323]; with_reducible exact H) | (have H2_ := (Option.bind_some _ _).symm.trans H; rw [hy323]; with_reducible exact H2_) | (have H2_ := (Option.bind_some _ _).symm.trans H; with_reducible exact H2_) | with_reducible exact H | (rw [hy323]; exact H) | exact H
                have Ny323 := Aside0.mk hy323
                clear hy323
                obtain rfl := Option.some.inj H
                obtain ⟨hcz41_0, hcz41_1, hfz41_0, hfz41_1⟩ := cz2 BK313
                go_wp2_with (first | ((with_reducible refine gate_builtin (b := .append) (xs := #[.tmp 45, .tmp 47]) rfl ?_); at_builtin; refine Kd.R_append k38 (w0 := w) w.heap.size rfl (.tmp 45) (.tmp 47) 32 38 (.agg #[(.int .i64 0), (.int .i64 0)]) 16 rfl Tryz.underlying32 info38 rfl (by decide) (by omega) u5 x5_1 (⟨a1_0, a1_1⟩ : S38) [.int .i64 a1_0, .int .i64 a1_1] (fun k_ => k_ ≠ gb313) (fun _ => False) rfl rfl ?aP (fun _ hk => hk.elim) ?aF ?aO ?aB ?aS ?aL ?_; (case aP => exact k38_mkM _ _ _ (⟨a1_0, a1_1⟩ : S38)); (case aB => exact (zb HB)); (case aF => exact (fun k_ hk => Kd.freshB (g := gb313) (o := .cells #[.int .i64 a1_0, .int .i64 a1_1] 38 (0, 0)) (zk BK313) k_ hk)); (case aO => exact (zr HO_5)); (case aS => exact (below_size (zb HB))); (case aL => have := LMc37.out; omega); intro v321 w42 ho hb hg hat; rw [← Ny320.out] at ho; replace BK313 := am (blk_grown (zk BK313) hg (Kd.R_away HO_5.out (fun _ hk => hk))); replace HB := am (hb); have HO322 := am (ho); clear HO_5; clear ho hb hg hat; obtain ⟨Ao43, co43, eo43⟩ := Kd.R_slice HO322.out; subst eo43; have q44 : ((ji38) : Int) ≤ ((y320.length : Int) : Int) := of_decide_eq_true za; obtain ⟨i044, hi044, _, hsz44, _⟩ := info_parts info38; have hcut44 := cut_to (P := Tryz.prog) 32 38 .i64 Tryz.underlying32 hi044 Ao43 y320.length co43 (ji38) (of_decide_eq_true za) q44 (Kd.R_reads' HO322.out).2.1; have hr44 := Kd.R_take (m := ((ji38) : Int).toNat) HO322.out (by omega); have hy44 : y323.length = ((ji38) : Int).toNat := (by rw [Ny323.out, List.length_take]; omega); rw [← Ny323.out] at hr44; rw [← hy44] at hr44 hcut44; clear hy44 hi044 hsz44 HO322; have HO325 := Aside0.mk hr44; clear hr44; replace q44 := eq_true q44))
                go_ret
                exact ⟨_, by first | rfl | (simp [errW_none, errW_some] <;> rfl) | (simp only [← hji38]; first | rfl | (simp [errW_none, errW_some] <;> rfl)) | (simp [*, errW_none, errW_some] <;> rfl), by (with_reducible repeat (first | apply Kd.R_alloc | apply Kd.R_drewN | apply Kd.R_drew)); exact Kd.R_mono HO325.out (fun _ hk => trivial), zb HB⟩
              · rw [if_neg c40] at H
                exact absurd H (by simp)
            · rw [if_neg c39] at H
              exact absurd H (by simp)
          · rw [if_neg c37] at H
            exact absurd H (by simp)
end Go.Proofs.YtofklpphalalhaaGreatDoor.PAll
