/- packet's writer: begun, ints, list, sealed, walked by hand. Conditions: less than 2^46 bytes. -/
import Derived.Test.YtofklpphalalhaaGreatDoorUpJ11
import Derived.Test.YtofklpphalalhaaGreatDoorUpBld
import Derived.Test.YtofklpphalalhaaGreatDoorUpEvs
namespace Go.Proofs.YtofklpphalalhaaGreatDoor
set_option linter.unusedVariables false
set_option linter.unusedSimpArgs false
open Go.RowKit Go.Proofs.YtofklpphalalhaaGreatDoor.PAll Go.Proofs.YtofklpphalalhaaGreatDoorW.PrintWords Go.Proofs.YtofklpphalalhaaGreatDoorW.PrintLast Go.Proofs.YtofklpphalalhaaGreatDoorW.PrintMore
theorem putInt_calls (n : Int) (w : World) : Calls Tryz.prog 119 #[.int .i64 n] w fun e w' => e = .returned (.string (Evs.S (Pk.putI n))) ∧ Below w.heap.size w w' := by
  obtain ⟨k, hk⟩ := (Evs.putInt n).rounds
  exact pack_PutInt.calls k n _ w hk
theorem putUint_calls (n : Int) (h : n < 9223372036854775808) (w : World) : Calls Tryz.prog 77 #[.int .i64 n] w fun e w' => e = .returned (.string (Evs.S (Pk.putUI n))) ∧ Below w.heap.size w w' := by
  obtain ⟨k, hk⟩ := (Evs.putUint n h).rounds
  exact pack_PutUint.calls k n _ w hk
theorem putText_calls (s : ByteArray) (h : s.size ≤ 140737488351232) (w : World) : Calls Tryz.prog 75 #[.string s] w fun e w' => e = .returned (.string (Evs.S (Pk.putT s.data.toList))) ∧ Below w.heap.size w w' := by
  obtain ⟨k, hk⟩ := (Evs.putText s h).rounds
  exact pack_PutText.calls k s _ w hk
namespace Pp
def ints (l : List Int) : List UInt8 := l.flatMap Pk.putI
def list (l : List Int) : List UInt8 := Pk.putUI l.length ++ ints l
theorem putI_len (n : Int) : (Pk.putI n).length ≤ 9 := by
  unfold Pk.putI
  split
  · simp
  · rename_i h
    refine Evs.putU_len9 _ (Nat.lt_of_lt_of_le (Evs.zig_lt n ?_ ?_) (by omega)) <;> omega
theorem putUI_len (n : Int) (h : n < 9223372036854775808) : (Pk.putUI n).length ≤ 9 := by
  unfold Pk.putUI
  split
  · simp
  · exact Evs.putU_len9 _ (by omega)
theorem ints_len (l : List Int) : (ints l).length ≤ 9 * l.length := by
  induction l with
  | nil => simp [ints]
  | cons x l ih =>
    have := putI_len x
    unfold ints at ih ⊢
    rw [List.flatMap_cons, List.length_append, List.length_cons]; omega
theorem ints_take (l : List Int) (k : Nat) (hk : k < l.length) : ints (l.take (k + 1)) = ints (l.take k) ++ Pk.putI (l.getD k 0) := by
  unfold ints
  rw [List.take_succ_eq_append_getElem hk, List.flatMap_append, List.getD_eq_getElem?_getD, List.getElem?_eq_getElem hk]
  simp
end Pp
/-- A writer: a builder that holds bytes. -/
def Wr (base b : Nat) (l : List UInt8) (w : World) : Prop := Bld 124 [] base b (Lib.byteCells l) w
section
variable {base b : Nat} {l : List UInt8} {w w' : World}
theorem Wr.below (h : Wr base b l w) (hb : Below w.heap.size w w') : Wr base b l w' := by
  obtain ⟨h1, p, v, hp, hk, ho⟩ := h
  exact ⟨h1, p, v, hp, (hb.block b (Array.getElem?_eq_some_iff.1 hk).1).trans hk, pw_own_below ho hb⟩
theorem Wr.drew (h : Wr base b l w) : Wr base b l w.drew := h
theorem Wr.base_le (h : Wr base b l w) : base ≤ w.heap.size := Bld.base_le h
end
theorem wr_write {base b : Nat} {l : List UInt8} {w : World} (h : Wr base b l w) (s : ByteArray) (hlen : (Lib.byteCells l).length + s.size ≤ 140737488355328) : Calls Tryz.prog 74 #[.pointer (some ⟨b, 0, none⟩), .string s] w fun e w' => e = .returned (.tuple #[.int .i64 s.size, .nilIface]) ∧ Bld 124 [] base b (Lib.byteCells l ++ Lib.strCells s) w' ∧ Below base w w' ∧ Kp b w w' := writeString_calls (T := 124) (rest := []) begins124 h s hlen
theorem Kp.of_below {b : Nat} {w w' : World} (h : Below w.heap.size w w') : Kp b w w' := fun k o hk _ _ => (h.block k (Array.getElem?_eq_some_iff.1 hk).1).trans hk
theorem below_size' {B : Nat} {w W : World} (h : Below B w W) (hb : B ≤ w.heap.size) : B ≤ W.heap.size := Nat.le_trans hb h.size
set_option maxRecDepth 100000 in
set_option maxHeartbeats 4000000 in
theorem ints_walk (base b : Nat) (l : List UInt8) (A : Option Addr) (c : Nat) (xs : List Int) (w : World) (hW : Wr base b l w) (hl : l.length + 9 * xs.length ≤ 70368744177664)
    (hC : ∀ w', Below base w w' → Kp b w w' → Kd.C (Kd.int .i64) w' A xs.length xs) :
    Calls Tryz.prog 76 #[.pointer (some ⟨b, 0, none⟩), .slice A xs.length c] w fun e w' => e = .returned (.tuple #[]) ∧ Wr base b (l ++ Pp.ints xs) w' ∧ Below base w w' ∧ Kp b w w' := by
  have HC := Aside0.mk hC
  have HW0 := Aside0.mk hW
  have HBS := Aside0.mk hW.base_le
  clear hC hW
  go_enter Tryz.func76, Tryz.ntmps76
  go_wp2_with fail
  go_loopw [8] (fun v wr => ∃ k : Nat, k ≤ xs.length ∧ v = .int .i64 k ∧ Wr base b (l ++ Pp.ints (xs.take k)) wr ∧ Below base w wr ∧ Kp b w wr) (fun v _ => xs.length - (intOf v).toNat)
  case atStart => exact ⟨0, Nat.zero_le _, rfl, by simpa [Pp.ints] using HW0.out, Below.refl _ _, Kp.refl _ _⟩
  case round =>
    obtain ⟨k, hk, rfl, hw, hb, hkp⟩ := hrel
    have HWR := Aside0.mk hw
    have HB := Aside0.mk hb
    have HK := Aside0.mk hkp
    clear hw hb hkp
    by_cases hlt : k < xs.length
    · have hdl : (k : Int) < (xs.length : Int) := by omega
      obtain ⟨ad, e, x0⟩ := int_cell (HC.out _ HB.out HK.out) k hlt
      subst e
      have hnx := Pp.ints_take xs k hlt
      obtain ⟨x, hx⟩ : ∃ x, xs.getD k 0 = x := ⟨_, rfl⟩
      rw [hx] at x0 hnx
      have HNX := Aside0.mk hnx
      have hlw : Aside0 ((Lib.byteCells (l ++ Pp.ints (xs.take k))).length + (Evs.S (Pk.putI x)).size ≤ 140737488355328) := ⟨by
        rw [Lib.byteCells_length, List.length_append, Evs.S_size]
        have h1 := Pp.ints_len (xs.take k)
        have h2 := Pp.putI_len x
        rw [List.length_take] at h1
        omega⟩
      clear hx hnx
      go_wp2_with fail
      refine start_ (n := 6) (S := fun w' => True) (ds := []) #[false, false, false, false, false, false] (by kernel_rfl) rfl rfl trivial (fun hHeld => ?_)
      refine pure_ (i := 0) (N := some 12) (v := ?_) (a' := ?_) #[true, false, false, false, false, false] rfl rfl (by kernel_rfl) (fun _ _ _ h => h) (Or.inl ⟨by rfl, ?_⟩) ?_ ?_
      rotate_left
      · intro w'
        go_simp
        with_reducible rfl
      rotate_left
      · simp only [Act.put, List.setIfInBounds_toArray, List.set_cons_zero, List.set_cons_succ, i64_w, i32_w]
        rfl
      refine pure_ (i := 1) (N := some 13) (v := ?_) (a' := ?_) #[true, true, false, false, false, false] rfl rfl (by kernel_rfl) (fun _ _ _ h => h) (Or.inl ⟨by rfl, ?_⟩) ?_ ?_
      rotate_left
      · intro w'
        go_simp
        with_reducible rfl
      rotate_left
      · simp only [Act.put, List.setIfInBounds_toArray, List.set_cons_zero, List.set_cons_succ, i64_w, i32_w]
        rfl
      refine pure_ (i := 2) (N := some 14) (v := ?_) (a' := ?_) #[true, true, true, false, false, false] rfl rfl (by kernel_rfl) (fun _ _ _ h => h) (Or.inl ⟨by rfl, ?_⟩) ?_ ?_
      rotate_left
      · intro w'
        go_simp
        with_reducible rfl
      rotate_left
      · simp only [Act.put, List.setIfInBounds_toArray, List.set_cons_zero, List.set_cons_succ, i64_w, i32_w]
        rfl
      refine pure_ (i := 3) (N := some 15) (v := ?_) (a' := ?_) #[true, true, true, true, false, false] rfl rfl (by kernel_rfl) (fun _ _ _ h => h) (Or.inl ⟨by rfl, ?_⟩) ?_ ?_
      rotate_left
      · intro w'
        go_simp
        with_reducible rfl
      rotate_left
      · simp only [Act.put, List.setIfInBounds_toArray, List.set_cons_zero, List.set_cons_succ, i64_w, i32_w]
        rfl
      refine one_ (i := 4) (N := some 16) #[true, true, true, true, true, false] rfl rfl (by kernel_rfl) (by decide) (fun K hK => ?_)
      refine goes_ Tryz.func119 (by kernel_rfl) rfl #[.int .i64 x] (by rfl) rfl rfl (by simp only [List.map_toArray, List.map_cons, List.map_nil]; rfl) ?_
      with_reducible refine ((putInt_calls x _)).mono ?_
      rintro e W1 ⟨rfl, hb1⟩
      refine ⟨_, rfl, ?_⟩
      have HC1 : Aside0 (Wr base b (l ++ Pp.ints (xs.take k)) W1) := ⟨HWR.out.drew.below hb1⟩
      have HB1 : Aside0 (Below base w W1) := ⟨HB.out.drew.trans (hb1.mono (Nat.le_trans HBS.out HB.out.size))⟩
      have HK1 : Aside0 (Kp b w W1) := ⟨HK.out.drew.trans (Kp.of_below hb1)⟩
      clear hb1
      refine hK.out _ _ trivial (fun hHeld => ?_)
      clear hK K
      refine norm_ (a' := ?_) ?_ ?_
      rotate_left
      · show Act.put _ (some 16) _ = _
        simp only [Act.put, List.setIfInBounds_toArray, List.set_cons_zero, List.set_cons_succ, i64_w, i32_w]
        rfl
      refine one_ (i := 5) (N := some 17) #[true, true, true, true, true, true] rfl rfl (by kernel_rfl) (by decide) (fun K hK => ?_)
      refine goes_ Tryz.func74 (by kernel_rfl) rfl #[.pointer (some ⟨b, 0, none⟩), .string (Evs.S (Pk.putI x))] (by rfl) rfl rfl (by simp only [List.map_toArray, List.map_cons, List.map_nil]; rfl) ?_
      with_reducible refine ((wr_write HC1.out (Evs.S (Pk.putI x)) hlw.out)).mono ?_
      rintro e W2 ⟨rfl, hw, hb2, hk2⟩
      refine ⟨_, rfl, ?_⟩
      have HW2 := Aside0.mk hw
      have HB2 := Aside0.mk hb2
      have HK2 := Aside0.mk hk2
      clear hw hb2 hk2
      refine hK.out _ _ trivial (fun hHeld => ?_)
      clear hK K
      refine norm_ (a' := ?_) ?_ ?_
      rotate_left
      · show Act.put _ (some 17) _ = _
        simp only [Act.put, List.setIfInBounds_toArray, List.set_cons_zero, List.set_cons_succ, i64_w, i32_w]
        rfl
      refine done_ (by kernel_rfl) ?_
      have HW3 : Aside0 (Wr base b (l ++ Pp.ints (xs.take (k + 1))) W2) := ⟨by
        rw [HNX.out, ← List.append_assoc]
        have := HW2.out
        rw [Lib.strCells_eq, Evs.S_data, ← Lib.byteCells_append] at this
        exact this⟩
      have HB3 : Aside0 (Below base w W2) := ⟨HB1.out.trans HB2.out⟩
      have HK3 : Aside0 (Kp b w W2) := ⟨HK1.out.trans HK2.out⟩
      clear HW2 HB1 HB2 HK1 HK2 HC1 HNX hlw HWR HB HK
      go_wp2_with fail
      go_roundw
      case rel => exact ⟨k + 1, by omega, by go_num, HW3.out, HB3.out, HK3.out⟩
      case measure => simp [intOf]; omega
    · have hdl : ¬ ((k : Int) < (xs.length : Int)) := by omega
      have hke : xs.take k = xs := List.take_of_length_le (by omega)
      rw [hke] at HWR
      have HF := Aside0.mk (And.intro HWR.out (And.intro HB.out HK.out))
      clear HWR HB HK hke
      go_wp2_with fail
      go_end0
      exact ⟨rfl, HF.out⟩
set_option maxRecDepth 100000 in
set_option maxHeartbeats 4000000 in
theorem list_walk (base b : Nat) (l : List UInt8) (A : Option Addr) (c : Nat) (xs : List Int) (w : World) (hW : Wr base b l w) (hl : l.length + 9 * xs.length + 9 ≤ 70368744177664)
    (hC : ∀ w', Below base w w' → Kp b w w' → Kd.C (Kd.int .i64) w' A xs.length xs) :
    Calls Tryz.prog 78 #[.pointer (some ⟨b, 0, none⟩), .slice A xs.length c] w fun e w' => e = .returned (.tuple #[]) ∧ Wr base b (l ++ Pp.list xs) w' ∧ Below base w w' ∧ Kp b w w' := by
  have HC := Aside0.mk hC
  have HWR := Aside0.mk hW
  have HBS := Aside0.mk hW.base_le
  have hlw : Aside0 ((Lib.byteCells l).length + (Evs.S (Pk.putUI xs.length)).size ≤ 140737488355328) := ⟨by
    rw [Lib.byteCells_length, Evs.S_size]
    have h2 := Pp.putUI_len xs.length (by omega)
    omega⟩
  clear hC hW
  go_enter Tryz.func78, Tryz.ntmps78
  go_wp2_with fail
  refine start_ (n := 7) (S := fun w' => True) (ds := []) #[false, false, false, false, false, false, false] (by kernel_rfl) rfl rfl trivial (fun hHeld => ?_)
  refine pure_ (i := 0) (N := some 4) (v := ?_) (a' := ?_) #[true, false, false, false, false, false, false] rfl rfl (by kernel_rfl) (fun _ _ _ h => h) (Or.inl ⟨by rfl, ?_⟩) ?_ ?_
  rotate_left
  · intro w'
    go_simp
    with_reducible rfl
  rotate_left
  · simp only [Act.put, List.setIfInBounds_toArray, List.set_cons_zero, List.set_cons_succ, i64_w, i32_w]
    rfl
  refine pure_ (i := 1) (N := some 5) (v := ?_) (a' := ?_) #[true, true, false, false, false, false, false] rfl rfl (by kernel_rfl) (fun _ _ _ h => h) (Or.inl ⟨by rfl, ?_⟩) ?_ ?_
  rotate_left
  · intro w'
    go_simp
    with_reducible rfl
  rotate_left
  · simp only [Act.put, List.setIfInBounds_toArray, List.set_cons_zero, List.set_cons_succ, i64_w, i32_w]
    rfl
  refine pure_ (i := 2) (N := some 6) (v := ?_) (a' := ?_) #[true, true, true, false, false, false, false] rfl rfl (by kernel_rfl) (fun _ _ _ h => h) (Or.inl ⟨by rfl, ?_⟩) ?_ ?_
  rotate_left
  · intro w'
    go_simp
    with_reducible rfl
  rotate_left
  · simp only [Act.put, List.setIfInBounds_toArray, List.set_cons_zero, List.set_cons_succ, i64_w, i32_w]
    rfl
  refine pure_ (i := 3) (N := some 7) (v := ?_) (a' := ?_) #[true, true, true, true, false, false, false] rfl rfl (by kernel_rfl) (fun _ _ _ h => h) (Or.inl ⟨by rfl, ?_⟩) ?_ ?_
  rotate_left
  · intro w'
    go_simp
    with_reducible rfl
  rotate_left
  · simp only [Act.put, List.setIfInBounds_toArray, List.set_cons_zero, List.set_cons_succ, i64_w, i32_w]
    rfl
  refine pure_ (i := 4) (N := some 8) (v := ?_) (a' := ?_) #[true, true, true, true, true, false, false] rfl rfl (by kernel_rfl) (fun _ _ _ h => h) (Or.inl ⟨by rfl, ?_⟩) ?_ ?_
  rotate_left
  · intro w'
    go_simp
    with_reducible rfl
  rotate_left
  · simp only [Act.put, List.setIfInBounds_toArray, List.set_cons_zero, List.set_cons_succ, i64_w, i32_w]
    rfl
  refine one_ (i := 5) (N := some 9) #[true, true, true, true, true, true, false] rfl rfl (by kernel_rfl) (by decide) (fun K hK => ?_)
  refine goes_ Tryz.func77 (by kernel_rfl) rfl #[.int .i64 xs.length] (by rfl) rfl rfl (by simp only [List.map_toArray, List.map_cons, List.map_nil]; rfl) ?_
  with_reducible refine ((putUint_calls xs.length (by omega) _)).mono ?_
  rintro e W1 ⟨rfl, hb1⟩
  refine ⟨_, rfl, ?_⟩
  have HC1 : Aside0 (Wr base b l W1) := ⟨HWR.out.drew.below hb1⟩
  have HB1 : Aside0 (Below base w W1) := ⟨((Below.refl base w).drew).trans (hb1.mono HBS.out)⟩
  have HK1 : Aside0 (Kp b w W1) := ⟨(Kp.refl b w).drew.trans (Kp.of_below hb1)⟩
  clear hb1
  refine hK.out _ _ trivial (fun hHeld => ?_)
  clear hK K
  refine norm_ (a' := ?_) ?_ ?_
  rotate_left
  · show Act.put _ (some 9) _ = _
    simp only [Act.put, List.setIfInBounds_toArray, List.set_cons_zero, List.set_cons_succ, i64_w, i32_w]
    rfl
  refine one_ (i := 6) (N := some 10) #[true, true, true, true, true, true, true] rfl rfl (by kernel_rfl) (by decide) (fun K hK => ?_)
  refine goes_ Tryz.func74 (by kernel_rfl) rfl #[.pointer (some ⟨b, 0, none⟩), .string (Evs.S (Pk.putUI xs.length))] (by rfl) rfl rfl (by simp only [List.map_toArray, List.map_cons, List.map_nil]; rfl) ?_
  with_reducible refine ((wr_write HC1.out (Evs.S (Pk.putUI xs.length)) hlw.out)).mono ?_
  rintro e W2 ⟨rfl, hw, hb2, hk2⟩
  refine ⟨_, rfl, ?_⟩
  have HW2 := Aside0.mk hw
  have HB2 := Aside0.mk hb2
  have HK2 := Aside0.mk hk2
  clear hw hb2 hk2
  refine hK.out _ _ trivial (fun hHeld => ?_)
  clear hK K
  refine norm_ (a' := ?_) ?_ ?_
  rotate_left
  · show Act.put _ (some 10) _ = _
    simp only [Act.put, List.setIfInBounds_toArray, List.set_cons_zero, List.set_cons_succ, i64_w, i32_w]
    rfl
  refine done_ (by kernel_rfl) ?_
  have HW3 : Aside0 (Wr base b (l ++ Pk.putUI xs.length) W2) := ⟨by
    have := HW2.out
    rw [Lib.strCells_eq, Evs.S_data, ← Lib.byteCells_append] at this
    exact this⟩
  have HB3 : Aside0 (Below base w W2) := ⟨HB1.out.trans HB2.out⟩
  have HK3 : Aside0 (Kp b w W2) := ⟨HK1.out.trans HK2.out⟩
  have hin := ints_walk base b (l ++ Pk.putUI xs.length) A c xs W2 HW3.out (by
    have h2 := Pp.putUI_len xs.length (by omega)
    rw [List.length_append]; omega) (fun w' h1 h2 => HC.out w' (HB3.out.trans h1) (HK3.out.trans h2))
  have HIN := Aside0.mk hin
  clear hin HW2 HB1 HB2 HK1 HK2 HC1 hlw HWR
  go_wp2_with fail
  refine HIN.out.mono ?_
  rintro e w' ⟨rfl, hw, hb, hk⟩
  have HF := Aside0.mk (And.intro hw (And.intro (HB3.out.trans hb) (HK3.out.trans hk)))
  clear hw hb hk
  go_wp2_with fail
  go_end0
  exact ⟨rfl, by unfold Pp.list; rw [← List.append_assoc]; exact HF.out.1, HF.out.2⟩
set_option maxRecDepth 100000 in
set_option maxHeartbeats 4000000 in
theorem begun_walk (kind : UInt8) (w : World) : Calls Tryz.prog 73 #[.int .u8 kind.toNat] w fun e w' => e = .returned (.pointer (some ⟨w.heap.size, 0, none⟩)) ∧ Wr w.heap.size w.heap.size [69, 80, 84, kind] w' ∧ Below w.heap.size w w' := by
  have h0 : Wr w.heap.size w.heap.size [] (w.alloc (.cells #[.pointer none, .slice none 0 0] 124)) := ⟨Nat.le_refl _, _, _, .inl rfl, Array.getElem?_push_size, World.ownsRow_nil _ _ _ _⟩
  have HS := Aside0.mk (writeString_calls begins124 h0 ⟨#[69, 80, 84]⟩ (by decide))
  clear h0
  go_enter Tryz.func73, Tryz.ntmps73
  go_wp2_with fail
  refine HS.out.mono ?_
  rintro e W1 ⟨rfl, hw1, hb1, hk1⟩
  have HB1 : Aside0 (Below w.heap.size w W1) := ⟨(below_one w _).trans hb1⟩
  have hwb := writeByte_calls begins124 hw1 (by decide) kind.toNat
  have HWB := Aside0.mk hwb
  clear hwb hw1 hb1 hk1 HS
  go_wp2_with fail
  refine HWB.out.mono ?_
  rintro e W2 ⟨rfl, hw2, hb2, hk2⟩
  have HF := Aside0.mk (And.intro hw2 (HB1.out.trans hb2))
  clear hw2 hb2 hk2 HWB HB1
  go_wp2_with fail
  go_ret
  exact ⟨rfl, HF.out.1, HF.out.2⟩
set_option maxRecDepth 100000 in
set_option maxHeartbeats 4000000 in
theorem sealed_walk (base b : Nat) (l : List UInt8) (w : World) (hW : Wr base b l w) (h0 : l ≠ []) (hl : l.length ≤ 70368744177664) (HT : ∀ w', Below base w w' → Tab w') :
    Calls Tryz.prog 79 #[.pointer (some ⟨b, 0, none⟩)] w fun e w' => e = .returned (.string (Evs.S (Pk.shut l))) ∧ Below base w w' := by
  have HS := Aside0.mk (string_calls begins124 hW h0)
  have HBS := Aside0.mk hW.base_le
  clear hW
  go_enter Tryz.func79, Tryz.ntmps79
  go_wp2_with fail
  refine HS.out.mono ?_
  rintro e W1 ⟨rfl, hb1, hk1⟩
  have hsl := pack_Seal.calls ⟨l.toArray⟩ (Evs.S (Pk.shut l)) W1 (HT W1 hb1) (by
    have := Evs.sealed ⟨l.toArray⟩ (by have e : (⟨l.toArray⟩ : ByteArray).size = l.length := Evs.S_size l; omega)
    exact this)
  have HSL := Aside0.mk hsl
  have HB1 := Aside0.mk hb1
  clear hsl hb1 hk1 HS
  go_wp2_with fail
  refine HSL.out.mono ?_
  rintro e W2 ⟨rfl, hb2⟩
  have HF := Aside0.mk (HB1.out.trans (hb2.mono (below_size' HB1.out HBS.out)))
  clear hb2 HSL HB1
  go_wp2_with fail
  go_ret
  exact ⟨rfl, HF.out⟩
end Go.Proofs.YtofklpphalalhaaGreatDoor
