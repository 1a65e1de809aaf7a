/- canon.Same and plan.Same where they say yes, and theirs, walked by hand. Conditions: none. -/
import Derived.Test.YtofklpphalalhaaGreatDoorUzJ26
import Derived.Test.YtofklpphalalhaaGreatDoorUzJ27
import Derived.Laws.StructEq
namespace Go.Proofs.YtofklpphalalhaaGreatDoor
set_option linter.unusedVariables false
set_option linter.unusedSimpArgs false
open Go.RowKit Go.Proofs.YtofklpphalalhaaGreatDoor.PAll Go.Proofs.YtofklpphalalhaaGreatDoorW.PrintWords Go.Proofs.YtofklpphalalhaaGreatDoorW.PrintLast Go.Proofs.YtofklpphalalhaaGreatDoorW.PrintMore
theorem neq71 (d : S71) (w : World) : Sem.run Tryz.prog (binOp .neq 71 (.agg #[.int .i64 d.f0, .int .i64 d.f1, .int .i64 d.f2, .int .i64 d.f3, .int .i64 d.f4, .int .i64 d.f5, .int .i64 d.f6]) (.agg #[.int .i64 d.f0, .int .i64 d.f1, .int .i64 d.f2, .int .i64 d.f3, .int .i64 d.f4, .int .i64 d.f5, .int .i64 d.f6])) w = .ok (.bool false) w := by
  have u3 := Tryz.underlying3
  have a3 := Tryz.isAgg3
  have z3 := Tryz.sizeOf3
  have hS : Tryz.prog.underlying 71 = some (.struct (Tryz.prog.fieldsOf 71)) := by kernel_rfl
  have hp : Tryz.prog.stoodInHeld 71 = false := by kernel_rfl
  rw [run_neq_struct, show (10000 : Nat) = 9999 + 1 from rfl, run_equalIn_agg w 9999 71 _ _ hS hp]
  simp only [Program.fieldsOf, Tryz.underlying71]
  go_simp
theorem at_int {w : World} {A : Option Addr} {n : Nat} {l : List Int} (h : Kd.C (Kd.int .i64) w A n l) (k : Nat) (hk : k < l.length) : ∃ ad, A = some ad ∧ w.cell? (ad.add k) = some (.int .i64 (l.getD k 0)) := int_cell h k hk
set_option maxRecDepth 100000 in
set_option maxHeartbeats 8000000 in
theorem eqN_walk (A B : Option Addr) (c c' : Nat) (l : List S71) (w : World) (hA : Kd.C (k71) w A l.length l) (hB : Kd.C (k71) w B l.length l) : Calls Tryz.prog 65 #[.slice A l.length c, .slice B l.length c'] w fun e w' => e = .returned (.bool true) ∧ Below w.heap.size w w' := by
  have HA := Aside0.mk hA
  have HB := Aside0.mk hB
  have hm := (C_len hA).2
  clear hA hB
  go_enter Tryz.func65, Tryz.ntmps65
  go_wp2_with fail
  go_loopw [13] (fun v wr => ∃ k : Nat, k ≤ l.length ∧ v = .int .i64 k ∧ Below w.heap.size w wr) (fun v _ => l.length - (intOf v).toNat)
  case atStart => exact ⟨0, Nat.zero_le _, rfl, Below.refl _ _⟩
  case round =>
    obtain ⟨k, hk, rfl, hb⟩ := hrel
    have HK := Aside0.mk hb
    clear hb
    by_cases hlt : k < l.length
    · have hdl : (k : Int) < (l.length : Int) := by omega
      obtain ⟨ad, e, x0, x1, x2, x3, x4, x5, x6⟩ := at_T71 (Kd.C_below HA.out HK.out) (k : Int) (by omega) (by omega)
      subst e
      obtain ⟨bd, e, z0, z1, z2, z3, z4, z5, z6⟩ := at_T71 (Kd.C_below HB.out HK.out) (k : Int) (by omega) (by omega)
      subst e
      simp only [Int.toNat_natCast] at x0 x1 x2 x3 x4 x5 x6 z0 z1 z2 z3 z4 z5 z6
      obtain ⟨d, hd⟩ : ∃ d, rd_T71 l k = d := ⟨_, rfl⟩
      rw [hd] at x0 x1 x2 x3 x4 x5 x6 z0 z1 z2 z3 z4 z5 z6
      have hne := neq71 d
      clear hd
      have HK2 : Aside0 (Below w.heap.size w wr.drew) := ⟨HK.out.drew⟩
      go_wp2_with fail
      refine start_ (n := 9) (S := fun w' => w'.cell? (ad.add (k * 7)) = some (.int .i64 d.f0) ∧ w'.cell? ⟨(ad.add (k * 7)).block, (ad.add (k * 7)).off + 1, none⟩ = some (.int .i64 d.f1) ∧ w'.cell? ⟨(ad.add (k * 7)).block, (ad.add (k * 7)).off + 2, none⟩ = some (.int .i64 d.f2) ∧ w'.cell? ⟨(ad.add (k * 7)).block, (ad.add (k * 7)).off + 3, none⟩ = some (.int .i64 d.f3) ∧ w'.cell? ⟨(ad.add (k * 7)).block, (ad.add (k * 7)).off + 4, none⟩ = some (.int .i64 d.f4) ∧ w'.cell? ⟨(ad.add (k * 7)).block, (ad.add (k * 7)).off + 5, none⟩ = some (.int .i64 d.f5) ∧ w'.cell? ⟨(ad.add (k * 7)).block, (ad.add (k * 7)).off + 6, none⟩ = some (.int .i64 d.f6) ∧ w'.cell? (bd.add (k * 7)) = some (.int .i64 d.f0) ∧ w'.cell? ⟨(bd.add (k * 7)).block, (bd.add (k * 7)).off + 1, none⟩ = some (.int .i64 d.f1) ∧ w'.cell? ⟨(bd.add (k * 7)).block, (bd.add (k * 7)).off + 2, none⟩ = some (.int .i64 d.f2) ∧ w'.cell? ⟨(bd.add (k * 7)).block, (bd.add (k * 7)).off + 3, none⟩ = some (.int .i64 d.f3) ∧ w'.cell? ⟨(bd.add (k * 7)).block, (bd.add (k * 7)).off + 4, none⟩ = some (.int .i64 d.f4) ∧ w'.cell? ⟨(bd.add (k * 7)).block, (bd.add (k * 7)).off + 5, none⟩ = some (.int .i64 d.f5) ∧ w'.cell? ⟨(bd.add (k * 7)).block, (bd.add (k * 7)).off + 6, none⟩ = some (.int .i64 d.f6)) (ds := []) #[false, false, false, false, false, false, false, false, false] (by kernel_rfl) rfl rfl ⟨x0, x1, x2, x3, x4, x5, x6, z0, z1, z2, z3, z4, z5, z6⟩ (fun hHeld => ?_)
      refine pure_ (i := 0) (N := some 16) (v := ?_) (a' := ?_) #[true, false, false, false, false, false, false, false, false] rfl rfl (by kernel_rfl) (fun _ _ _ h => h) (Or.inl ⟨by rfl, ?_⟩) ?_ ?_
      rotate_left
      · intro w'
        go_simp
        with_reducible rfl
      rotate_left
      · simp only [Act.put, List.setIfInBounds_toArray, List.set_cons_zero, List.set_cons_succ, i64_w, i32_w]
        rfl
      refine pure_ (i := 1) (N := some 17) (v := ?_) (a' := ?_) #[true, true, false, false, false, false, false, false, false] rfl rfl (by kernel_rfl) (fun _ _ _ h => h) (Or.inl ⟨by rfl, ?_⟩) ?_ ?_
      rotate_left
      · intro w'
        go_simp
        with_reducible rfl
      rotate_left
      · simp only [Act.put, List.setIfInBounds_toArray, List.set_cons_zero, List.set_cons_succ, i64_w, i32_w]
        rfl
      refine pure_ (i := 2) (N := some 18) (v := ?_) (a' := ?_) #[true, true, true, false, false, false, false, false, false] rfl rfl (by kernel_rfl) (fun _ _ _ h => h) (Or.inl ⟨by rfl, ?_⟩) ?_ ?_
      rotate_left
      · intro w'
        go_simp
        with_reducible rfl
      rotate_left
      · simp only [Act.put, List.setIfInBounds_toArray, List.set_cons_zero, List.set_cons_succ, i64_w, i32_w]
        rfl
      refine pure_ (i := 4) (N := some 20) (v := ?_) (a' := ?_) #[true, true, true, false, true, false, false, false, false] rfl rfl (by kernel_rfl) (fun _ _ _ h => h) (Or.inl ⟨by rfl, ?_⟩) ?_ ?_
      rotate_left
      · intro w'
        go_simp
        with_reducible rfl
      rotate_left
      · simp only [Act.put, List.setIfInBounds_toArray, List.set_cons_zero, List.set_cons_succ, i64_w, i32_w]
        rfl
      refine pure_ (i := 5) (N := some 21) (v := ?_) (a' := ?_) #[true, true, true, false, true, true, false, false, false] rfl rfl (by kernel_rfl) (fun _ _ _ h => h) (Or.inl ⟨by rfl, ?_⟩) ?_ ?_
      rotate_left
      · intro w'
        go_simp
        with_reducible rfl
      rotate_left
      · simp only [Act.put, List.setIfInBounds_toArray, List.set_cons_zero, List.set_cons_succ, i64_w, i32_w]
        rfl
      refine pure_ (i := 6) (N := some 22) (v := ?_) (a' := ?_) #[true, true, true, false, true, true, true, false, false] rfl rfl (by kernel_rfl) (fun _ _ _ h => h) (Or.inl ⟨by rfl, ?_⟩) ?_ ?_
      rotate_left
      · intro w'
        go_simp
        with_reducible rfl
      rotate_left
      · simp only [Act.put, List.setIfInBounds_toArray, List.set_cons_zero, List.set_cons_succ, i64_w, i32_w]
        rfl
      refine take_ (i := 3) (N := some 19) (v := ?_) (a' := ?_) #[true, true, true, true, true, true, true, false, false] rfl rfl (by kernel_rfl) (fun _ _ _ h => h) (Or.inl ⟨by rfl, ?_⟩) hHeld ?_ ?_
      rotate_left
      · rintro w' ⟨s0, s1, s2, s3, s4, s5, s6, s7, s8, s9, s10, s11, s12, s13⟩
        go_simp
        with_reducible rfl
      rotate_left
      · simp only [Act.put, List.setIfInBounds_toArray, List.set_cons_zero, List.set_cons_succ, i64_w, i32_w]
        rfl
      refine take_ (i := 7) (N := some 23) (v := ?_) (a' := ?_) #[true, true, true, true, true, true, true, true, false] rfl rfl (by kernel_rfl) (fun _ _ _ h => h) (Or.inl ⟨by rfl, ?_⟩) hHeld ?_ ?_
      rotate_left
      · rintro w' ⟨s0, s1, s2, s3, s4, s5, s6, s7, s8, s9, s10, s11, s12, s13⟩
        go_simp
        with_reducible rfl
      rotate_left
      · simp only [Act.put, List.setIfInBounds_toArray, List.set_cons_zero, List.set_cons_succ, i64_w, i32_w]
        rfl
      refine pure_ (i := 8) (N := some 24) (v := ?_) (a' := ?_) #[true, true, true, true, true, true, true, true, true] rfl rfl (by kernel_rfl) (fun _ _ _ h => h) (Or.inl ⟨by rfl, ?_⟩) ?_ ?_
      rotate_left
      · intro w'
        go_simp
        with_reducible rfl
      rotate_left
      · simp only [Act.put, List.setIfInBounds_toArray, List.set_cons_zero, List.set_cons_succ, i64_w, i32_w]
        rfl
      refine done_ (by kernel_rfl) ?_
      go_wp2_with fail
      go_roundw
      case rel => exact ⟨k + 1, by omega, by go_num, HK2.out⟩
      case measure => simp [intOf]; omega
    · have hdl : ¬ ((k : Int) < (l.length : Int)) := by omega
      go_wp2_with fail
      go_ret
      exact ⟨rfl, HK.out⟩
set_option maxRecDepth 100000 in
set_option maxHeartbeats 8000000 in
theorem eqI_walk (A B : Option Addr) (c c' : Nat) (l : List Int) (w : World) (hA : Kd.C (Kd.int .i64) w A l.length l) (hB : Kd.C (Kd.int .i64) w B l.length l) : Calls Tryz.prog 66 #[.slice A l.length c, .slice B l.length c'] w fun e w' => e = .returned (.bool true) ∧ Below w.heap.size w w' := by
  have HA := Aside0.mk hA
  have HB := Aside0.mk hB
  have hm := (C_len hA).2
  clear hA hB
  go_enter Tryz.func66, Tryz.ntmps66
  go_wp2_with fail
  go_loopw [13] (fun v wr => ∃ k : Nat, k ≤ l.length ∧ v = .int .i64 k ∧ Below w.heap.size w wr) (fun v _ => l.length - (intOf v).toNat)
  case atStart => exact ⟨0, Nat.zero_le _, rfl, Below.refl _ _⟩
  case round =>
    obtain ⟨k, hk, rfl, hb⟩ := hrel
    have HK := Aside0.mk hb
    clear hb
    by_cases hlt : k < l.length
    · have hdl : (k : Int) < (l.length : Int) := by omega
      obtain ⟨ad, e, x0⟩ := at_int (Kd.C_below HA.out HK.out) k hlt
      subst e
      obtain ⟨bd, e, z0⟩ := at_int (Kd.C_below HB.out HK.out) k hlt
      subst e
      obtain ⟨d, hd⟩ : ∃ d, l.getD k 0 = d := ⟨_, rfl⟩
      rw [hd] at x0 z0
      clear hd
      have HK2 : Aside0 (Below w.heap.size w wr.drew) := ⟨HK.out.drew⟩
      go_wp2_with fail
      refine start_ (n := 9) (S := fun w' => w'.cell? (ad.add k) = some (.int .i64 d) ∧ w'.cell? (bd.add k) = some (.int .i64 d)) (ds := []) #[false, false, false, false, false, false, false, false, false] (by kernel_rfl) rfl rfl ⟨x0, z0⟩ (fun hHeld => ?_)
      refine pure_ (i := 0) (N := some 16) (v := ?_) (a' := ?_) #[true, false, false, false, false, false, false, false, false] rfl rfl (by kernel_rfl) (fun _ _ _ h => h) (Or.inl ⟨by rfl, ?_⟩) ?_ ?_
      rotate_left
      · intro w'
        go_simp
        with_reducible rfl
      rotate_left
      · simp only [Act.put, List.setIfInBounds_toArray, List.set_cons_zero, List.set_cons_succ, i64_w, i32_w]
        rfl
      refine pure_ (i := 1) (N := some 17) (v := ?_) (a' := ?_) #[true, true, false, false, false, false, false, false, false] rfl rfl (by kernel_rfl) (fun _ _ _ h => h) (Or.inl ⟨by rfl, ?_⟩) ?_ ?_
      rotate_left
      · intro w'
        go_simp
        with_reducible rfl
      rotate_left
      · simp only [Act.put, List.setIfInBounds_toArray, List.set_cons_zero, List.set_cons_succ, i64_w, i32_w]
        rfl
      refine pure_ (i := 2) (N := some 18) (v := ?_) (a' := ?_) #[true, true, true, false, false, false, false, false, false] rfl rfl (by kernel_rfl) (fun _ _ _ h => h) (Or.inl ⟨by rfl, ?_⟩) ?_ ?_
      rotate_left
      · intro w'
        go_simp
        with_reducible rfl
      rotate_left
      · simp only [Act.put, List.setIfInBounds_toArray, List.set_cons_zero, List.set_cons_succ, i64_w, i32_w]
        rfl
      refine pure_ (i := 4) (N := some 20) (v := ?_) (a' := ?_) #[true, true, true, false, true, false, false, false, false] rfl rfl (by kernel_rfl) (fun _ _ _ h => h) (Or.inl ⟨by rfl, ?_⟩) ?_ ?_
      rotate_left
      · intro w'
        go_simp
        with_reducible rfl
      rotate_left
      · simp only [Act.put, List.setIfInBounds_toArray, List.set_cons_zero, List.set_cons_succ, i64_w, i32_w]
        rfl
      refine pure_ (i := 5) (N := some 21) (v := ?_) (a' := ?_) #[true, true, true, false, true, true, false, false, false] rfl rfl (by kernel_rfl) (fun _ _ _ h => h) (Or.inl ⟨by rfl, ?_⟩) ?_ ?_
      rotate_left
      · intro w'
        go_simp
        with_reducible rfl
      rotate_left
      · simp only [Act.put, List.setIfInBounds_toArray, List.set_cons_zero, List.set_cons_succ, i64_w, i32_w]
        rfl
      refine pure_ (i := 6) (N := some 22) (v := ?_) (a' := ?_) #[true, true, true, false, true, true, true, false, false] rfl rfl (by kernel_rfl) (fun _ _ _ h => h) (Or.inl ⟨by rfl, ?_⟩) ?_ ?_
      rotate_left
      · intro w'
        go_simp
        with_reducible rfl
      rotate_left
      · simp only [Act.put, List.setIfInBounds_toArray, List.set_cons_zero, List.set_cons_succ, i64_w, i32_w]
        rfl
      refine take_ (i := 3) (N := some 19) (v := ?_) (a' := ?_) #[true, true, true, true, true, true, true, false, false] rfl rfl (by kernel_rfl) (fun _ _ _ h => h) (Or.inl ⟨by rfl, ?_⟩) hHeld ?_ ?_
      rotate_left
      · rintro w' ⟨s0, s1⟩
        go_simp
        with_reducible rfl
      rotate_left
      · simp only [Act.put, List.setIfInBounds_toArray, List.set_cons_zero, List.set_cons_succ, i64_w, i32_w]
        rfl
      refine take_ (i := 7) (N := some 23) (v := ?_) (a' := ?_) #[true, true, true, true, true, true, true, true, false] rfl rfl (by kernel_rfl) (fun _ _ _ h => h) (Or.inl ⟨by rfl, ?_⟩) hHeld ?_ ?_
      rotate_left
      · rintro w' ⟨s0, s1⟩
        go_simp
        with_reducible rfl
      rotate_left
      · simp only [Act.put, List.setIfInBounds_toArray, List.set_cons_zero, List.set_cons_succ, i64_w, i32_w]
        rfl
      refine pure_ (i := 8) (N := some 24) (v := ?_) (a' := ?_) #[true, true, true, true, true, true, true, true, true] rfl rfl (by kernel_rfl) (fun _ _ _ h => h) (Or.inl ⟨by rfl, ?_⟩) ?_ ?_
      rotate_left
      · intro w'
        go_simp
        with_reducible rfl
      rotate_left
      · simp only [Act.put, List.setIfInBounds_toArray, List.set_cons_zero, List.set_cons_succ, i64_w, i32_w]
        rfl
      refine done_ (by kernel_rfl) ?_
      go_wp2_with fail
      go_roundw
      case rel => exact ⟨k + 1, by omega, by go_num, HK2.out⟩
      case measure => simp [intOf]; omega
    · have hdl : ¬ ((k : Int) < (l.length : Int)) := by omega
      go_wp2_with fail
      go_ret
      exact ⟨rfl, HK.out⟩
theorem eqIn106 (n : Nat) (a b c d e : Int) (w : World) : (Op.equalIn (n + 1 + 1) 106 (.agg #[.int .i64 a, .int .i64 b, .int .i64 c, .int .i64 d, .int .i64 e]) (.agg #[.int .i64 a, .int .i64 b, .int .i64 c, .int .i64 d, .int .i64 e])).run Tryz.prog w = .ok true w := by
  have u3 := Tryz.underlying3
  have a3 := Tryz.isAgg3
  have z3 := Tryz.sizeOf3
  have u106 := Tryz.underlying106
  rw [Op.equalIn]
  simp only [Sem.run_bind, run_underlying u106, Result.andThen_ok, z3, Std.Legacy.Range.forIn_eq_forIn_range', Std.Legacy.Range.size]
  simp [List.range', go_sem, u3, a3, z3, part]
theorem eq106 (a b c d e : Int) (w : World) : Sem.run Tryz.prog (binOp .eql 106 (.agg #[.int .i64 a, .int .i64 b, .int .i64 c, .int .i64 d, .int .i64 e]) (.agg #[.int .i64 a, .int .i64 b, .int .i64 c, .int .i64 d, .int .i64 e])) w = .ok (.bool true) w := by
  rw [run_eql_struct, show (10000 : Nat) = 9998 + 1 + 1 from rfl, eqIn106]
  rfl
theorem box_cells {W : World} {g : Nat} {x : Cn.In} {v6 v7 : Value} (h : W.heap[g]? = some (inB x v6 v7)) : W.cell? ⟨g, 0, none⟩ = some (.string x.nm) ∧ W.cell? ⟨g, 1, none⟩ = some (.int .i64 x.kind) ∧ W.cell? ⟨g, 2, none⟩ = some (.int .i64 x.metric) ∧ W.cell? ⟨g, 3, none⟩ = some (.int .i64 x.scale) ∧ W.cell? ⟨g, 4, none⟩ = some (.int .i64 x.cap) ∧ W.cell? ⟨g, 5, none⟩ = some (.int .i64 x.fleet) ∧ W.cell? ⟨g, 6, none⟩ = some v6 ∧ W.cell? ⟨g, 7, none⟩ = some v7 := by
  refine ⟨?_, ?_, ?_, ?_, ?_, ?_, ?_, ?_⟩ <;> (rw [Lib.cell_of_heap h]; rfl)
set_option maxRecDepth 100000 in
set_option maxHeartbeats 16000000 in
theorem csame_walk (x : Cn.In) (A6 A7 B6 B7 : Option Addr) (c6 c7 d6 d7 : Nat) (w : World) (hA6 : Kd.C k71 w A6 x.nodes.length x.nodes) (hA7 : Kd.C (Kd.int .i64) w A7 x.mx.length x.mx) (hB6 : Kd.C k71 w B6 x.nodes.length x.nodes) (hB7 : Kd.C (Kd.int .i64) w B7 x.mx.length x.mx) :
    Calls Tryz.prog 20 #[inV x (.slice A6 x.nodes.length c6) (.slice A7 x.mx.length c7), inV x (.slice B6 x.nodes.length d6) (.slice B7 x.mx.length d7)] w fun e w' => e = .returned (.bool true) ∧ Below w.heap.size w w' := by
  have hb := below_two w (inB x (.slice A6 x.nodes.length c6) (.slice A7 x.mx.length c7)) (inB x (.slice B6 x.nodes.length d6) (.slice B7 x.mx.length d7))
  have htb := two_blocks w (inB x (.slice A6 x.nodes.length c6) (.slice A7 x.mx.length c7)) (inB x (.slice B6 x.nodes.length d6) (.slice B7 x.mx.length d7))
  have HB := Aside0.mk hb
  have HT := Aside0.mk htb
  have HEN := Aside0.mk (eqN_walk A6 B6 c6 d6 x.nodes _ (Kd.C_below hA6 hb) (Kd.C_below hB6 hb))
  have HA7 := Aside0.mk (Kd.C_below hA7 hb)
  have HB7 := Aside0.mk (Kd.C_below hB7 hb)
  clear hb htb hA6 hA7 hB6 hB7
  go_enter Tryz.func20, Tryz.ntmps20
  go_wp2_with fail
  refine HEN.out.mono ?_
  rintro e w1 ⟨rfl, b1⟩
  have hT1 := (b1.block w.heap.size (by simp <;> omega)).trans HT.out.1
  have hT2 := (b1.block (w.heap.size + 1) (by simp <;> omega)).trans HT.out.2
  obtain ⟨_, _, _, _, _, _, _, a7⟩ := box_cells hT1
  obtain ⟨_, _, _, _, _, _, _, e7⟩ := box_cells hT2
  have HEI := Aside0.mk (eqI_walk A7 B7 c7 d7 x.mx w1 (Kd.C_below HA7.out b1) (Kd.C_below HB7.out b1))
  have HB1 := Aside0.mk (HB.out.trans (b1.mono (by simp <;> omega)))
  have H1 := Aside0.mk hT1
  have H2 := Aside0.mk hT2
  clear b1 hT1 hT2 HEN HA7 HB7 HT
  go_wp2_with fail
  refine HEI.out.mono ?_
  rintro e w2 ⟨rfl, b2⟩
  obtain ⟨a0, a1, a2, a3, a4, a5, _, _⟩ := box_cells ((b2.block _ (Array.getElem?_eq_some_iff.1 H1.out).1).trans H1.out)
  obtain ⟨e0, e1, e2, e3, e4, e5, _, _⟩ := box_cells ((b2.block _ (Array.getElem?_eq_some_iff.1 H2.out).1).trans H2.out)
  have HB2 := Aside0.mk (HB1.out.trans (b2.mono HB1.out.size))
  have hq := eq106 x.kind x.metric x.scale x.cap x.fleet
  clear b2 HEI a7 e7 H1 H2
  go_wp2_with fail
  go_ret
  exact ⟨by first | rfl | simp, HB2.out⟩
set_option maxRecDepth 100000 in
set_option maxHeartbeats 8000000 in
theorem eqF_walk (A B : Option Addr) (c c' : Nat) (rs : List (List Int)) (w : World) (hA : Kd.C kRow w A rs.length rs) (hB : Kd.C kRow w B rs.length rs) : Calls Tryz.prog 72 #[.slice A rs.length c, .slice B rs.length c', .func (.func 66) #[] #[]] w fun e w' => e = .returned (.bool true) ∧ Below w.heap.size w w' := by
  have HA := Aside0.mk hA
  have HB := Aside0.mk hB
  have hm := (C_len hA).2
  clear hA hB
  go_enter Tryz.func72, Tryz.ntmps72
  go_wp2_with fail
  go_loopw [17] (fun v wr => ∃ k : Nat, k ≤ rs.length ∧ v = .int .i64 k ∧ Below w.heap.size w wr) (fun v _ => rs.length - (intOf v).toNat)
  case atStart => exact ⟨0, Nat.zero_le _, rfl, Below.refl _ _⟩
  case round =>
    obtain ⟨k, hk, rfl, hb⟩ := hrel
    have HK := Aside0.mk hb
    clear hb
    by_cases hlt : k < rs.length
    · have hdl : (k : Int) < (rs.length : Int) := by omega
      obtain ⟨ad, A0, c0, e, x0, _, hC0⟩ := at_L4 (Kd.C_below HA.out HK.out) (k : Int) (by omega) (by omega)
      subst e
      obtain ⟨bd, B0, k0, e, z0, _, hD0⟩ := at_L4 (Kd.C_below HB.out HK.out) (k : Int) (by omega) (by omega)
      subst e
      rw [Int.toNat_natCast] at x0 z0
      obtain ⟨r, hr⟩ : ∃ r, rd_L4 rs k = r := ⟨_, rfl⟩
      rw [hr] at x0 z0 hC0 hD0
      have HE := Aside0.mk (eqI_walk A0 B0 c0 k0 r wr hC0 hD0)
      clear hr hC0 hD0
      go_wp2_with fail
      refine HE.out.mono ?_
      rintro e w1 ⟨rfl, b1⟩
      have HK2 := Aside0.mk (HK.out.trans (b1.mono HK.out.size))
      clear b1 HE x0 z0
      go_wp2_with fail
      go_roundw
      case rel => exact ⟨k + 1, by omega, by go_num, HK2.out⟩
      case measure => simp [intOf]; omega
    · have hdl : ¬ ((k : Int) < (rs.length : Int)) := by omega
      go_wp2_with fail
      go_ret
      exact ⟨rfl, HK.out⟩
set_option maxRecDepth 100000 in
set_option maxHeartbeats 8000000 in
theorem psame_walk (A B : Option Addr) (c c' : Nat) (rs : List (List Int)) (w : World) (hA : Kd.C kRow w A rs.length rs) (hB : Kd.C kRow w B rs.length rs) : Calls Tryz.prog 22 #[.agg #[.slice A rs.length c], .agg #[.slice B rs.length c']] w fun e w' => e = .returned (.bool true) ∧ Below w.heap.size w w' := by
  have hb := below_two w (.cells #[.slice A rs.length c] 28) (.cells #[.slice B rs.length c'] 28)
  have HE := Aside0.mk (eqF_walk A B c c' rs _ (Kd.C_below hA hb) (Kd.C_below hB hb))
  have HB := Aside0.mk hb
  clear hb hA hB
  go_enter Tryz.func22, Tryz.ntmps22
  go_wp2_with fail
  refine HE.out.mono ?_
  rintro e w1 ⟨rfl, b1⟩
  have HK2 := Aside0.mk (HB.out.trans (b1.mono (by simp <;> omega)))
  clear b1 HE
  go_wp2_with fail
  go_ret
  exact ⟨rfl, HK2.out⟩
end Go.Proofs.YtofklpphalalhaaGreatDoor
