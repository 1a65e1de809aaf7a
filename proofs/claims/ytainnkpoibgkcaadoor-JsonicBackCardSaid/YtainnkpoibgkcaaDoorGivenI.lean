/- jsonic's machine: begin, walked by hand. Conditions: the machine lies as told. -/
import Derived.Test.YtainnkpoibgkcaaDoorGivenH
namespace Go.Proofs.YtainnkpoibgkcaaDoor
set_option linter.unusedVariables false
set_option linter.unusedSimpArgs false
open Go.RowKit Go.Proofs.YtainnkpoibgkcaaDoor.PAll Go.Proofs.YtainnkpoibgkcaaDoorW.PrintWords Go.Proofs.YtainnkpoibgkcaaDoorW.PrintLast

theorem mc_open (s : ByteArray) (p : Int) (o : Nat → Int) (d : Int) (v : Value) (d0 d1 : Int) (j : Nat) (hj : j < 16) (e : Int) :
    (mc s p o d v d0 d1).setIfInBounds (2 + j) (.int .u8 e) = mc s p (fun i => if i = j then e else o i) d v d0 d1 := by
  match j, hj with
  | 0, _ => rfl
  | 1, _ => rfl
  | 2, _ => rfl
  | 3, _ => rfl
  | 4, _ => rfl
  | 5, _ => rfl
  | 6, _ => rfl
  | 7, _ => rfl
  | 8, _ => rfl
  | 9, _ => rfl
  | 10, _ => rfl
  | 11, _ => rfl
  | 12, _ => rfl
  | 13, _ => rfl
  | 14, _ => rfl
  | 15, _ => rfl
  | n + 16, h => exact absurd h (by omega)
theorem mc_get (s : ByteArray) (p : Int) (o : Nat → Int) (d : Int) (v : Value) (d0 d1 : Int) (j : Nat) (hj : j < 16) :
    (mc s p o d v d0 d1)[2 + j]? = some (.int .u8 (o j)) := by
  match j, hj with
  | 0, _ => rfl
  | 1, _ => rfl
  | 2, _ => rfl
  | 3, _ => rfl
  | 4, _ => rfl
  | 5, _ => rfl
  | 6, _ => rfl
  | 7, _ => rfl
  | 8, _ => rfl
  | 9, _ => rfl
  | 10, _ => rfl
  | 11, _ => rfl
  | 12, _ => rfl
  | 13, _ => rfl
  | 14, _ => rfl
  | 15, _ => rfl
  | n + 16, h => exact absurd h (by omega)
section
variable {w w' : World} {base B p : Nat} {s : ByteArray} {st : List UInt8} {its : List S38} {d0 d1 : Int}
theorem MS.cell18 (h : MS w base B s p st its d0 d1) : w.cell? ⟨B, 18, none⟩ = some (.int .i64 (st.length : Int)) := by
  obtain ⟨o, v, hM, _⟩ := h; exact hM.cells.2.2.1
theorem MS.openCell (h : MS w base B s p st its d0 d1) (j : Nat) (hj : j < 16) : ∃ x : Int, w.cell? ⟨B, 2 + j, none⟩ = some (.int .u8 x) := by
  obtain ⟨o, v, hM, _⟩ := h
  exact ⟨o j, by rw [Lib.cell_of_heap (show w.heap[B]? = some _ from hM)]; exact mc_get _ _ _ _ _ _ _ j hj⟩
theorem MS.topCell {en : UInt8} (h : MS w base B s p (en :: st) its d0 d1) (hst : st.length < 16) : w.cell? ⟨B, 2 + st.length, none⟩ = some (.int .u8 (en.toNat : Int)) := by
  obtain ⟨o, v, hM, _, _, hs⟩ := h
  have := hs 0 (by simp)
  simp only [List.length_cons, Nat.add_sub_cancel, Nat.sub_zero, List.getElem_cons_zero] at this
  rw [Lib.cell_of_heap (show w.heap[B]? = some _ from hM), mc_get _ _ _ _ _ _ _ _ hst, this]
/-- One more is open. -/
theorem MS.push (h : MS w base B s p st its d0 d1) (hst : st.length < 16) (en : UInt8) :
    MS ((w.setCell ⟨B, 2 + st.length, none⟩ (.int .u8 (en.toNat : Int))).setCell ⟨B, 18, none⟩ (.int .i64 ((st.length + 1 : Nat) : Int))) base B s p (en :: st) its d0 d1 := by
  obtain ⟨o, v, hM, ho, hb, hs⟩ := h
  have h1 : IsM (w.setCell ⟨B, 2 + st.length, none⟩ (.int .u8 (en.toNat : Int))) B s p (fun i => if i = st.length then (en.toNat : Int) else o i) st.length v d0 d1 :=
    hM.set (2 + st.length) _ (mc_open _ _ _ _ _ _ _ _ hst _)
  have h2 := h1.set 18 (.int .i64 ((st.length + 1 : Nat) : Int)) (cs := mc s p (fun i => if i = st.length then (en.toNat : Int) else o i) ((st.length + 1 : Nat) : Int) v d0 d1) rfl
  refine ⟨_, v, h2, (ho.kept (grown_set w B _ _) (.inr (own38_ne ho hM))).kept (grown_set _ B _ _) (.inr (own38_ne (ho.kept (grown_set w B _ _) (.inr (own38_ne ho hM))) h1)), hb, fun i hi => ?_⟩
  cases i with
  | zero => simp
  | succ i =>
    have hi' : i < st.length := by simpa using hi
    have := hs i hi'
    simp only [List.length_cons, Nat.add_sub_cancel, List.getElem_cons_succ]
    rw [if_neg (by omega), show st.length - (i + 1) = st.length - 1 - i by omega]
    exact this
theorem MS.pop {en : UInt8} (h : MS w base B s p (en :: st) its d0 d1) : MS (w.setCell ⟨B, 18, none⟩ (.int .i64 (st.length : Int))) base B s p st its d0 d1 := by
  obtain ⟨o, v, hM, ho, hb, hs⟩ := h
  have h2 := hM.set 18 (.int .i64 (st.length : Int)) (cs := mc s p o (st.length : Int) v d0 d1) rfl
  refine ⟨o, v, h2, ho.kept (grown_set w B _ _) (.inr (own38_ne ho hM)), hb, fun i hi => ?_⟩
  have := hs (i + 1) (by simpa using hi)
  simp only [List.length_cons, List.getElem_cons_succ] at this
  rw [← this]
  congr 1
  omega
end
/-- What a bracket begins. -/
def Js.enOf (c : UInt8) : UInt8 := if c = 123 then 125 else 93
def Js.kdOf (c : UInt8) : Int := if c = 123 then 4 else 3
def Js.nxOf (c : UInt8) (l : List UInt8) : Int := if Js.hd (Js.skip l) = ((Js.enOf c).toNat : Int) then 2 else if c = 123 then 1 else 0
set_option maxRecDepth 100000 in
set_option maxHeartbeats 4000000 in
theorem begin_deep {w : World} {base B p : Nat} {s : ByteArray} {st : List UInt8} {its : List S38} {d0 d1 : Int} (h : MS w base B s p st its d0 d1) (hst : st.length = 16) (c : Int) :
    Calls Tryd.prog 39 #[.pointer (some ⟨B, 0, none⟩), .int .u8 c] w fun e w' => e = .returned (.tuple #[.int .i64 0, .bool false]) ∧ MS w' base B s p st its p 191 ∧ Below base w w' := by
  have c1 := h.cell1
  have c18 := h.cell18
  rw [hst] at c18
  have hfl := Aside0.mk (fail_ms h (p : Int) 191)
  clear h hst
  go_enter Tryd.func39, Tryd.ntmps39
  go_wp2_with fail
  refine hfl.out.mono ?_
  rintro e W5 ⟨rfl, m5, b5⟩
  have HF := Aside0.mk (And.intro m5 b5)
  clear m5 b5 hfl
  go_wp2_with fail
  go_ret2
  exact ⟨rfl, HF.out⟩
set_option maxRecDepth 100000 in
set_option maxHeartbeats 4000000 in
theorem begin_ms {w : World} {base B p : Nat} {s : ByteArray} {st : List UInt8} {its : List S38} {d0 d1 : Int} (h : MS w base B s p st its d0 d1) (hst : st.length < 16) (hp : p < s.size) (hs : s.size ≤ 1000000000) (hil : its.length ≤ 1000000000) (c : UInt8) (hc : c = 91 ∨ c = 123) (q : Nat) (hq : q + (Js.skip (s.data.toList.drop (p + 1))).length = s.size) :
    Calls Tryd.prog 39 #[.pointer (some ⟨B, 0, none⟩), .int .u8 (c.toNat : Int)] w fun e w' => e = .returned (.tuple #[.int .i64 (Js.nxOf c (s.data.toList.drop (p + 1))), .bool true]) ∧ MS w' base B s q (Js.enOf c :: st) (its ++ [⟨Js.kdOf c, 0, ByteArray.empty, (p : Int)⟩]) d0 d1 ∧ Below base w w' := by
  have hbB : base ≤ B := by obtain ⟨o, v, _, _, hB, _⟩ := h; exact hB
  have c1 := h.cell1
  have c18 := h.cell18
  obtain ⟨L, hL⟩ : ∃ L, st.length = L := ⟨_, rfl⟩
  have HL := Aside0.mk hL
  rw [hL] at c18 hst
  have h16 : ((L : Int) == 16) = false := by simp; omega
  have HM := Aside0.mk h
  replace hq := Aside0.mk hq
  clear h hL
  rcases hc with rfl | rfl
  · have hpt := Aside0.mk (put_ms HM.out hil ⟨3, 0, ByteArray.empty, (p : Int)⟩)
    go_enter Tryd.func39, Tryd.ntmps39
    go_wp2_with fail
    refine hpt.out.mono ?_
    rintro e W2 ⟨rfl, m2, b2⟩
    have c1 := m2.cell1
    have c18 := m2.cell18
    rw [HL.out] at c18
    obtain ⟨x, ox⟩ := m2.openCell L hst
    have fx := m2.froz (2 + L)
    have f18 := m2.froz 18
    have f1 := m2.froz 1
    have M2 := Aside0.mk m2
    have B2 := Aside0.mk b2
    clear m2 b2 hpt
    have hL16 : (L : Int) < 16 := by omega
    go_wp2_with fail
    refine start_ (n := 10) (S := fun w' => w'.cell? ⟨B, 18, none⟩ = some (.int .i64 L)) (ds := [9]) #[false, false, false, false, false, false, false, false, false, false] (by kernel_rfl) rfl rfl (c18) (fun hHeld => ?_)
    refine pure_ (i := 0) (N := some 30) (v := ?_) (a' := ?_) #[true, false, false, false, false, false, false, false, false, false] rfl rfl (by kernel_rfl) (fun _ _ _ h => h) (Or.inl ⟨by rfl, ?_⟩) ?_ ?_
    rotate_left
    · intro w'
      go_simp
      with_reducible rfl
    rotate_left
    · simp only [Act.put, List.setIfInBounds_toArray, List.set_cons_zero, List.set_cons_succ, i64_w, i32_w]
      rfl
    refine pure_ (i := 1) (N := some 31) (v := ?_) (a' := ?_) #[true, true, false, false, false, false, false, false, false, false] rfl rfl (by kernel_rfl) (fun _ _ _ h => h) (Or.inl ⟨by rfl, ?_⟩) ?_ ?_
    rotate_left
    · intro w'
      go_simp
      with_reducible rfl
    rotate_left
    · simp only [Act.put, List.setIfInBounds_toArray, List.set_cons_zero, List.set_cons_succ, i64_w, i32_w]
      rfl
    refine pure_ (i := 2) (N := some 32) (v := ?_) (a' := ?_) #[true, true, true, false, false, false, false, false, false, false] rfl rfl (by kernel_rfl) (fun _ _ _ h => h) (Or.inl ⟨by rfl, ?_⟩) ?_ ?_
    rotate_left
    · intro w'
      go_simp
      with_reducible rfl
    rotate_left
    · simp only [Act.put, List.setIfInBounds_toArray, List.set_cons_zero, List.set_cons_succ, i64_w, i32_w]
      rfl
    refine pure_ (i := 3) (N := some 33) (v := ?_) (a' := ?_) #[true, true, true, true, false, false, false, false, false, false] rfl rfl (by kernel_rfl) (fun _ _ _ h => h) (Or.inl ⟨by rfl, ?_⟩) ?_ ?_
    rotate_left
    · intro w'
      go_simp
      with_reducible rfl
    rotate_left
    · simp only [Act.put, List.setIfInBounds_toArray, List.set_cons_zero, List.set_cons_succ, i64_w, i32_w]
      rfl
    refine pure_ (i := 5) (N := some 35) (v := ?_) (a' := ?_) #[true, true, true, true, false, true, false, false, false, false] rfl rfl (by kernel_rfl) (fun _ _ _ h => h) (Or.inl ⟨by rfl, ?_⟩) ?_ ?_
    rotate_left
    · intro w'
      go_simp
      with_reducible rfl
    rotate_left
    · simp only [Act.put, List.setIfInBounds_toArray, List.set_cons_zero, List.set_cons_succ, i64_w, i32_w]
      rfl
    refine pure_ (i := 6) (N := some 36) (v := ?_) (a' := ?_) #[true, true, true, true, false, true, true, false, false, false] rfl rfl (by kernel_rfl) (fun _ _ _ h => h) (Or.inl ⟨by rfl, ?_⟩) ?_ ?_
    rotate_left
    · intro w'
      go_simp
      with_reducible rfl
    rotate_left
    · simp only [Act.put, List.setIfInBounds_toArray, List.set_cons_zero, List.set_cons_succ, i64_w, i32_w]
      rfl
    refine pure_ (i := 7) (N := some 37) (v := ?_) (a' := ?_) #[true, true, true, true, false, true, true, true, false, false] rfl rfl (by kernel_rfl) (fun _ _ _ h => h) (Or.inl ⟨by rfl, ?_⟩) ?_ ?_
    rotate_left
    · intro w'
      go_simp
      with_reducible rfl
    rotate_left
    · simp only [Act.put, List.setIfInBounds_toArray, List.set_cons_zero, List.set_cons_succ, i64_w, i32_w]
      rfl
    refine take_ (i := 4) (N := some 34) (v := ?_) (a' := ?_) #[true, true, true, true, true, true, true, true, false, false] rfl rfl (by kernel_rfl) (fun _ _ _ h => h) (Or.inl ⟨by rfl, ?_⟩) hHeld ?_ ?_
    rotate_left
    · intro w' s0
      go_simp
      with_reducible rfl
    rotate_left
    · simp only [Act.put, List.setIfInBounds_toArray, List.set_cons_zero, List.set_cons_succ, i64_w, i32_w]
      rfl
    refine pure_ (i := 8) (N := some 38) (v := ?_) (a' := ?_) #[true, true, true, true, true, true, true, true, true, false] rfl rfl (by kernel_rfl) (fun _ _ _ h => h) (Or.inl ⟨by rfl, ?_⟩) ?_ ?_
    rotate_left
    · intro w'
      go_simp
      with_reducible rfl
    rotate_left
    · simp only [Act.put, List.setIfInBounds_toArray, List.set_cons_zero, List.set_cons_succ, i64_w, i32_w]
      rfl
    refine last_ (i := 9) (N := none) #[true, true, true, true, true, true, true, true, true, true] rfl rfl (by kernel_rfl) (by decide) (fun K hK => ?_)
    refine skip_ (w1 := ?_) (by rfl) rfl ?_ ?_
    rotate_left
    · go_simp
      rfl
    refine hK.out _ _ ?_
    clear hK K
    refine done_ (by kernel_rfl) ?_

    have hpu := M2.out.push (HL.out ▸ hst) 93
    rw [HL.out] at hpu
    have hp1 := hpu.put (w' := (((W2.setCell ⟨B, 2 + L, none⟩ (.int .u8 93)).setCell ⟨B, 18, none⟩ (.int .i64 ((L : Int) + 1))).setCell ⟨B, 1, none⟩ (.int .i64 ((p : Int) + 1)))) (p' := p + 1) (e0 := d0) (e1 := d1) (fun o v hM => hM.set 1 _ rfl) (grown_set _ _ _ _)
    have hb3 : Below base w ((((W2.setCell ⟨B, 2 + L, none⟩ (.int .u8 93)).setCell ⟨B, 18, none⟩ (.int .i64 ((L : Int) + 1))).setCell ⟨B, 1, none⟩ (.int .i64 ((p : Int) + 1))).drew) :=
      (((B2.out.setCell (p := ⟨B, 2 + L, none⟩) hbB _).setCell (p := ⟨B, 18, none⟩) hbB _).setCell (p := ⟨B, 1, none⟩) hbB _).drew
    have hpk := Aside0.mk (peek_ms (hp1.1.below (Below.drew (Below.refl _ _))) (by omega) hs q hq.out)
    replace hb3 := Aside0.mk hb3
    have HN : Aside0 (Js.nxOf 91 (s.data.toList.drop (p + 1)) = if Js.hd (Js.skip (s.data.toList.drop (p + 1))) = 93 then 2 else 0) := ⟨rfl⟩
    clear hpu hp1
    obtain ⟨z, hz⟩ : ∃ z, Js.hd (Js.skip (s.data.toList.drop (p + 1))) = z := ⟨_, rfl⟩
    rw [hz] at hpk HN
    clear hz
    go_wp2_with fail
    refine hpk.out.mono ?_
    rintro e W3 ⟨rfl, m3, b3⟩
    have HF := Aside0.mk (And.intro m3 (hb3.out.trans b3))
    clear m3 b3 hpk hb3
    by_cases hze : z = 93
    · have h1 : (z == 93) = true := by simpa using hze
      go_wp2_with fail
      go_ret2
      rw [HN.out, if_pos hze]
      exact ⟨rfl, HF.out⟩
    · have h1 : (z == 93) = false := by simpa using hze
      go_wp2_with fail
      go_ret2
      rw [HN.out, if_neg hze]
      exact ⟨rfl, HF.out⟩
  · have hpt := Aside0.mk (put_ms HM.out hil ⟨4, 0, ByteArray.empty, (p : Int)⟩)
    go_enter Tryd.func39, Tryd.ntmps39
    go_wp2_with fail
    refine hpt.out.mono ?_
    rintro e W2 ⟨rfl, m2, b2⟩
    have c1 := m2.cell1
    have c18 := m2.cell18
    rw [HL.out] at c18
    obtain ⟨x, ox⟩ := m2.openCell L hst
    have fx := m2.froz (2 + L)
    have f18 := m2.froz 18
    have f1 := m2.froz 1
    have M2 := Aside0.mk m2
    have B2 := Aside0.mk b2
    clear m2 b2 hpt
    have hL16 : (L : Int) < 16 := by omega
    go_wp2_with fail
    refine start_ (n := 10) (S := fun w' => w'.cell? ⟨B, 18, none⟩ = some (.int .i64 L)) (ds := [9]) #[false, false, false, false, false, false, false, false, false, false] (by kernel_rfl) rfl rfl (c18) (fun hHeld => ?_)
    refine pure_ (i := 0) (N := some 30) (v := ?_) (a' := ?_) #[true, false, false, false, false, false, false, false, false, false] rfl rfl (by kernel_rfl) (fun _ _ _ h => h) (Or.inl ⟨by rfl, ?_⟩) ?_ ?_
    rotate_left
    · intro w'
      go_simp
      with_reducible rfl
    rotate_left
    · simp only [Act.put, List.setIfInBounds_toArray, List.set_cons_zero, List.set_cons_succ, i64_w, i32_w]
      rfl
    refine pure_ (i := 1) (N := some 31) (v := ?_) (a' := ?_) #[true, true, false, false, false, false, false, false, false, false] rfl rfl (by kernel_rfl) (fun _ _ _ h => h) (Or.inl ⟨by rfl, ?_⟩) ?_ ?_
    rotate_left
    · intro w'
      go_simp
      with_reducible rfl
    rotate_left
    · simp only [Act.put, List.setIfInBounds_toArray, List.set_cons_zero, List.set_cons_succ, i64_w, i32_w]
      rfl
    refine pure_ (i := 2) (N := some 32) (v := ?_) (a' := ?_) #[true, true, true, false, false, false, false, false, false, false] rfl rfl (by kernel_rfl) (fun _ _ _ h => h) (Or.inl ⟨by rfl, ?_⟩) ?_ ?_
    rotate_left
    · intro w'
      go_simp
      with_reducible rfl
    rotate_left
    · simp only [Act.put, List.setIfInBounds_toArray, List.set_cons_zero, List.set_cons_succ, i64_w, i32_w]
      rfl
    refine pure_ (i := 3) (N := some 33) (v := ?_) (a' := ?_) #[true, true, true, true, false, false, false, false, false, false] rfl rfl (by kernel_rfl) (fun _ _ _ h => h) (Or.inl ⟨by rfl, ?_⟩) ?_ ?_
    rotate_left
    · intro w'
      go_simp
      with_reducible rfl
    rotate_left
    · simp only [Act.put, List.setIfInBounds_toArray, List.set_cons_zero, List.set_cons_succ, i64_w, i32_w]
      rfl
    refine pure_ (i := 5) (N := some 35) (v := ?_) (a' := ?_) #[true, true, true, true, false, true, false, false, false, false] rfl rfl (by kernel_rfl) (fun _ _ _ h => h) (Or.inl ⟨by rfl, ?_⟩) ?_ ?_
    rotate_left
    · intro w'
      go_simp
      with_reducible rfl
    rotate_left
    · simp only [Act.put, List.setIfInBounds_toArray, List.set_cons_zero, List.set_cons_succ, i64_w, i32_w]
      rfl
    refine pure_ (i := 6) (N := some 36) (v := ?_) (a' := ?_) #[true, true, true, true, false, true, true, false, false, false] rfl rfl (by kernel_rfl) (fun _ _ _ h => h) (Or.inl ⟨by rfl, ?_⟩) ?_ ?_
    rotate_left
    · intro w'
      go_simp
      with_reducible rfl
    rotate_left
    · simp only [Act.put, List.setIfInBounds_toArray, List.set_cons_zero, List.set_cons_succ, i64_w, i32_w]
      rfl
    refine pure_ (i := 7) (N := some 37) (v := ?_) (a' := ?_) #[true, true, true, true, false, true, true, true, false, false] rfl rfl (by kernel_rfl) (fun _ _ _ h => h) (Or.inl ⟨by rfl, ?_⟩) ?_ ?_
    rotate_left
    · intro w'
      go_simp
      with_reducible rfl
    rotate_left
    · simp only [Act.put, List.setIfInBounds_toArray, List.set_cons_zero, List.set_cons_succ, i64_w, i32_w]
      rfl
    refine take_ (i := 4) (N := some 34) (v := ?_) (a' := ?_) #[true, true, true, true, true, true, true, true, false, false] rfl rfl (by kernel_rfl) (fun _ _ _ h => h) (Or.inl ⟨by rfl, ?_⟩) hHeld ?_ ?_
    rotate_left
    · intro w' s0
      go_simp
      with_reducible rfl
    rotate_left
    · simp only [Act.put, List.setIfInBounds_toArray, List.set_cons_zero, List.set_cons_succ, i64_w, i32_w]
      rfl
    refine pure_ (i := 8) (N := some 38) (v := ?_) (a' := ?_) #[true, true, true, true, true, true, true, true, true, false] rfl rfl (by kernel_rfl) (fun _ _ _ h => h) (Or.inl ⟨by rfl, ?_⟩) ?_ ?_
    rotate_left
    · intro w'
      go_simp
      with_reducible rfl
    rotate_left
    · simp only [Act.put, List.setIfInBounds_toArray, List.set_cons_zero, List.set_cons_succ, i64_w, i32_w]
      rfl
    refine last_ (i := 9) (N := none) #[true, true, true, true, true, true, true, true, true, true] rfl rfl (by kernel_rfl) (by decide) (fun K hK => ?_)
    refine skip_ (w1 := ?_) (by rfl) rfl ?_ ?_
    rotate_left
    · go_simp
      rfl
    refine hK.out _ _ ?_
    clear hK K
    refine done_ (by kernel_rfl) ?_

    have hpu := M2.out.push (HL.out ▸ hst) 125
    rw [HL.out] at hpu
    have hp1 := hpu.put (w' := (((W2.setCell ⟨B, 2 + L, none⟩ (.int .u8 125)).setCell ⟨B, 18, none⟩ (.int .i64 ((L : Int) + 1))).setCell ⟨B, 1, none⟩ (.int .i64 ((p : Int) + 1)))) (p' := p + 1) (e0 := d0) (e1 := d1) (fun o v hM => hM.set 1 _ rfl) (grown_set _ _ _ _)
    have hb3 : Below base w ((((W2.setCell ⟨B, 2 + L, none⟩ (.int .u8 125)).setCell ⟨B, 18, none⟩ (.int .i64 ((L : Int) + 1))).setCell ⟨B, 1, none⟩ (.int .i64 ((p : Int) + 1))).drew) :=
      (((B2.out.setCell (p := ⟨B, 2 + L, none⟩) hbB _).setCell (p := ⟨B, 18, none⟩) hbB _).setCell (p := ⟨B, 1, none⟩) hbB _).drew
    have hpk := Aside0.mk (peek_ms (hp1.1.below (Below.drew (Below.refl _ _))) (by omega) hs q hq.out)
    replace hb3 := Aside0.mk hb3
    have HN : Aside0 (Js.nxOf 123 (s.data.toList.drop (p + 1)) = if Js.hd (Js.skip (s.data.toList.drop (p + 1))) = 125 then 2 else 1) := ⟨rfl⟩
    clear hpu hp1
    obtain ⟨z, hz⟩ : ∃ z, Js.hd (Js.skip (s.data.toList.drop (p + 1))) = z := ⟨_, rfl⟩
    rw [hz] at hpk HN
    clear hz
    go_wp2_with fail
    refine hpk.out.mono ?_
    rintro e W3 ⟨rfl, m3, b3⟩
    have HF := Aside0.mk (And.intro m3 (hb3.out.trans b3))
    clear m3 b3 hpk hb3
    by_cases hze : z = 125
    · have h1 : (z == 125) = true := by simpa using hze
      go_wp2_with fail
      go_ret2
      rw [HN.out, if_pos hze]
      exact ⟨rfl, HF.out⟩
    · have h1 : (z == 125) = false := by simpa using hze
      go_wp2_with fail
      go_ret2
      rw [HN.out, if_neg hze]
      exact ⟨rfl, HF.out⟩

end Go.Proofs.YtainnkpoibgkcaaDoor
