/- jsonic's machine: number, where strconv.Atoi has a value. Conditions: the machine lies as told; the listed variables too. -/
import Derived.Test.YtainnkpoibgkcaaDoorGivenD
namespace Go.Proofs.YtainnkpoibgkcaaDoor
set_option linter.unusedVariables false
set_option linter.unusedSimpArgs false
open Go.RowKit Go.Proofs.YtainnkpoibgkcaaDoor.PAll Go.Proofs.YtainnkpoibgkcaaDoorW.PrintWords Go.Proofs.YtainnkpoibgkcaaDoorW.PrintLast

set_option maxRecDepth 100000 in
set_option maxHeartbeats 4000000 in
theorem number_ne {w : World} {base B p : Nat} {s : ByteArray} {st : List UInt8} {its : List S38} {d0 d1 : Int} (h : MS w base B s p st its d0 d1) (HT : Tab w) (hp : p ≤ s.size) (hs : s.size ≤ 1000000000) (k : Int) (hn : Lib.atoiAll (Js.digs (s.data.toList.drop p)) = .ok k) (heq : Lib.itoa k ≠ Js.digs (s.data.toList.drop p)) :
    Calls Tryd.prog 40 #[.pointer (some ⟨B, 0, none⟩)] w fun e w' => e = .returned (.bool false) ∧ MS w' base B s p st its p 190 ∧ Below base w w' := by
  obtain ⟨hk0, hk1⟩ := Lib.atoiAll_bounds hn
  have hit := fun W (hT : Tab W) => itoa_calls k (by omega) (by omega) W hT
  have hbw := h.base_le
  have hlt := h.lt
  obtain ⟨n, hn1, hn2, hn3, hn4⟩ := digs_split s p hp
  have htr := fun W => trimLeft_calls (s.extract p s.size) ⟨#[45, 48, 49, 50, 51, 52, 53, 54, 55, 56, 57]⟩ W (by decide) (ascii_of_all (by decide))
  rw [ext_end] at htr
  have htr : ∀ W, Calls Tryd.prog 42 #[.string (s.extract p s.size), .string ⟨#[45, 48, 49, 50, 51, 52, 53, 54, 55, 56, 57]⟩] W fun e w' => e = .returned (.string (S (Lib.trimLeftS (s.data.toList.drop p) Js.dg))) ∧ Below W.heap.size W w' := htr
  obtain ⟨z, hz⟩ : ∃ z, S (Lib.trimLeftS (s.data.toList.drop p) Js.dg) = z := ⟨_, rfl⟩
  have hzs : z.size = s.size - p - n := by rw [← hz, S_size, hn3]
  rw [hz] at htr
  obtain ⟨r, hr⟩ : ∃ r, s.extract p s.size = r := ⟨_, rfl⟩
  have hrs : r.size = s.size - p := by rw [← hr, ByteArray.size_extract]; omega
  rw [hr] at htr hn4
  obtain ⟨d, hd⟩ : ∃ d, r.extract 0 n = d := ⟨_, rfl⟩
  have hds : d.size ≤ 1000000000 := by rw [← hd, ByteArray.size_extract]; omega
  rw [hd] at hn4
  have hat := fun W => atoi_ok d hds k (by rw [hn4]; exact hn) W
  replace htr := Aside0.mk htr
  replace hat := Aside0.mk hat
  obtain ⟨o, v, hM, ho, hb, hst⟩ := h
  obtain ⟨c0, c1, c18, c19, c20, c21, hf⟩ := hM.cells
  have HMS : Aside0 (MS w base B s p st its d0 d1) := ⟨⟨o, v, hM, ho, hb, hst⟩⟩
  replace HT := Aside0.mk HT
  have hbB := Aside0.mk hb
  have hnr : (n : Int) ≤ (r.size : Int) := by omega
  have hsub : (r.size : Int) - (z.size : Int) = (n : Int) := by omega
  have hzr : (z.size : Int) ≤ (r.size : Int) := by omega
  have hrm : (r.size : Int) ≤ 1000000000 := by omega
  have hdl : Aside0 (d.data.toList = Js.digs (s.data.toList.drop p)) := ⟨hn4⟩
  have hn1' := Aside0.mk hn1
  clear hz hn1 hn3 hn4 hrs hM ho hst hf c18 c19 c20 c21 hn hb hzs
  obtain ⟨a, ha⟩ : ∃ a, S (Lib.itoa k) = a := ⟨_, rfl⟩
  rw [ha] at hit
  have hne : (a.toList == d.toList) = false := by
    rw [beq_eq_false_iff_ne]
    intro e0
    rw [ByteArray.toList_eq, ByteArray.toList_eq, hdl.out, ← ha, S_data] at e0
    exact heq e0
  replace hit := Aside0.mk hit
  clear ha heq
  have b1 : ((p : Int) ≤ (s.size : Int)) = True := eq_true (by omega)
  go_enter Tryd.func40, Tryd.ntmps40
  go_wp2_with fail
  go_quiet (fail)
  go_wp2_with fail
  refine (htr.out _).mono ?_
  rintro e W2 ⟨rfl, hb2⟩
  have HB2 : Aside0 (Below w.heap.size w W2) := ⟨(grown_below' w nq).trans hb2⟩
  clear hb2
  go_wp2_with fail
  refine (hat.out _).mono ?_
  rintro e W3 ⟨rfl, hb3⟩
  have HB3 : Aside0 (Below w.heap.size w W3) := ⟨HB2.out.trans (hb3.mono HB2.out.size)⟩
  clear hb3 hat htr
  have HM3 := Aside0.mk (HMS.out.below HB3.out)
  have HT3 := Aside0.mk (HT.out.below HB3.out)
  clear HMS HB2 c0 c1 hlt
  go_wp2_with fail
  refine start_ (n := 18) (S := fun w' => True) (ds := []) #[false, false, false, false, false, false, false, false, false, false, false, false, false, false, false, false, false, false] (by kernel_rfl) rfl rfl trivial (fun hHeld => ?_)
  refine pure_ (i := 0) (N := some 29) (v := ?_) (a' := ?_) #[true, false, false, false, false, false, false, false, false, false, false, false, false, false, false, false, false, false] rfl rfl (by kernel_rfl) (fun _ _ _ h => h) (Or.inl ⟨by rfl, ?_⟩) ?_ ?_
  rotate_left
  · intro w'
    go_simp
    with_reducible rfl
  rotate_left
  · simp only [Act.put, List.setIfInBounds_toArray, List.set_cons_zero, List.set_cons_succ, i64_w, i32_w]
    rfl
  refine pure_ (i := 1) (N := some 30) (v := ?_) (a' := ?_) #[true, true, false, false, false, false, false, false, false, false, false, false, false, false, false, false, false, false] rfl rfl (by kernel_rfl) (fun _ _ _ h => h) (Or.inl ⟨by rfl, ?_⟩) ?_ ?_
  rotate_left
  · intro w'
    go_simp
    with_reducible rfl
  rotate_left
  · simp only [Act.put, List.setIfInBounds_toArray, List.set_cons_zero, List.set_cons_succ, i64_w, i32_w]
    rfl
  refine pure_ (i := 2) (N := some 31) (v := ?_) (a' := ?_) #[true, true, true, false, false, false, false, false, false, false, false, false, false, false, false, false, false, false] rfl rfl (by kernel_rfl) (fun _ _ _ h => h) (Or.inl ⟨by rfl, ?_⟩) ?_ ?_
  rotate_left
  · intro w'
    go_simp
    with_reducible rfl
  rotate_left
  · simp only [Act.put, List.setIfInBounds_toArray, List.set_cons_zero, List.set_cons_succ, i64_w, i32_w]
    rfl
  refine pure_ (i := 3) (N := some 32) (v := ?_) (a' := ?_) #[true, true, true, true, false, false, false, false, false, false, false, false, false, false, false, false, false, false] rfl rfl (by kernel_rfl) (fun _ _ _ h => h) (Or.inl ⟨by rfl, ?_⟩) ?_ ?_
  rotate_left
  · intro w'
    go_simp
    with_reducible rfl
  rotate_left
  · simp only [Act.put, List.setIfInBounds_toArray, List.set_cons_zero, List.set_cons_succ, i64_w, i32_w]
    rfl
  refine pure_ (i := 5) (N := some 34) (v := ?_) (a' := ?_) #[true, true, true, true, false, true, false, false, false, false, false, false, false, false, false, false, false, false] rfl rfl (by kernel_rfl) (fun _ _ _ h => h) (Or.inl ⟨by rfl, ?_⟩) ?_ ?_
  rotate_left
  · intro w'
    go_simp
    with_reducible rfl
  rotate_left
  · simp only [Act.put, List.setIfInBounds_toArray, List.set_cons_zero, List.set_cons_succ, i64_w, i32_w]
    rfl
  refine pure_ (i := 6) (N := some 35) (v := ?_) (a' := ?_) #[true, true, true, true, false, true, true, false, false, false, false, false, false, false, false, false, false, false] rfl rfl (by kernel_rfl) (fun _ _ _ h => h) (Or.inl ⟨by rfl, ?_⟩) ?_ ?_
  rotate_left
  · intro w'
    go_simp
    with_reducible rfl
  rotate_left
  · simp only [Act.put, List.setIfInBounds_toArray, List.set_cons_zero, List.set_cons_succ, i64_w, i32_w]
    rfl
  refine pure_ (i := 7) (N := some 36) (v := ?_) (a' := ?_) #[true, true, true, true, false, true, true, true, false, false, false, false, false, false, false, false, false, false] rfl rfl (by kernel_rfl) (fun _ _ _ h => h) (Or.inl ⟨by rfl, ?_⟩) ?_ ?_
  rotate_left
  · intro w'
    go_simp
    with_reducible rfl
  rotate_left
  · simp only [Act.put, List.setIfInBounds_toArray, List.set_cons_zero, List.set_cons_succ, i64_w, i32_w]
    rfl
  refine one_ (i := 4) (N := some 33) #[true, true, true, true, true, true, true, true, false, false, false, false, false, false, false, false, false, false] rfl rfl (by kernel_rfl) (by decide) (fun K hK => ?_)
  refine goes_ Tryd.func30 (by kernel_rfl) rfl #[.int .i64 k] (by rfl) rfl rfl (by simp only [List.map_toArray, List.map_cons, List.map_nil]; rfl) ?_
  with_reducible refine ((hit.out _ (HT3.out.below ((Below.refl _ _).drew)))).mono ?_
  rintro e W4 ⟨rfl, hb4⟩
  refine ⟨_, rfl, ?_⟩
  refine hK.out _ _ trivial (fun hHeld => ?_)
  clear hK K
  refine norm_ (a' := ?_) ?_ ?_
  rotate_left
  · show Act.put _ (some 33) _ = _
    simp only [Act.put, List.setIfInBounds_toArray, List.set_cons_zero, List.set_cons_succ, i64_w, i32_w]
    rfl
  refine pure_ (i := 8) (N := some 37) (v := ?_) (a' := ?_) #[true, true, true, true, true, true, true, true, true, false, false, false, false, false, false, false, false, false] rfl rfl (by kernel_rfl) (fun _ _ _ h => h) (Or.inl ⟨by rfl, ?_⟩) ?_ ?_
  rotate_left
  · intro w'
    go_simp
    with_reducible rfl
  rotate_left
  · simp only [Act.put, List.setIfInBounds_toArray, List.set_cons_zero, List.set_cons_succ, i64_w, i32_w]
    rfl
  refine pure_ (i := 9) (N := some 38) (v := ?_) (a' := ?_) #[true, true, true, true, true, true, true, true, true, true, false, false, false, false, false, false, false, false] rfl rfl (by kernel_rfl) (fun _ _ _ h => h) (Or.inl ⟨by rfl, ?_⟩) ?_ ?_
  rotate_left
  · intro w'
    go_simp
    with_reducible rfl
  rotate_left
  · simp only [Act.put, List.setIfInBounds_toArray, List.set_cons_zero, List.set_cons_succ, i64_w, i32_w]
    rfl
  refine pure_ (i := 10) (N := some 39) (v := ?_) (a' := ?_) #[true, true, true, true, true, true, true, true, true, true, true, false, false, false, false, false, false, false] rfl rfl (by kernel_rfl) (fun _ _ _ h => h) (Or.inl ⟨by rfl, ?_⟩) ?_ ?_
  rotate_left
  · intro w'
    go_simp
    with_reducible rfl
  rotate_left
  · simp only [Act.put, List.setIfInBounds_toArray, List.set_cons_zero, List.set_cons_succ, i64_w, i32_w]
    rfl
  refine pure_ (i := 11) (N := some 40) (v := undef) (a' := ?_) #[true, true, true, true, true, true, true, true, true, true, true, true, false, false, false, false, false, false] rfl rfl (by kernel_rfl) (fun _ _ _ h => h) (Or.inr ⟨by rfl, rfl⟩) ?_ ?_
  rotate_left
  · simp only [Act.put, List.setIfInBounds_toArray, List.set_cons_zero, List.set_cons_succ, i64_w, i32_w]
    rfl
  refine pure_ (i := 12) (N := some 41) (v := undef) (a' := ?_) #[true, true, true, true, true, true, true, true, true, true, true, true, true, false, false, false, false, false] rfl rfl (by kernel_rfl) (fun _ _ _ h => h) (Or.inr ⟨by rfl, rfl⟩) ?_ ?_
  rotate_left
  · simp only [Act.put, List.setIfInBounds_toArray, List.set_cons_zero, List.set_cons_succ, i64_w, i32_w]
    rfl
  refine pure_ (i := 13) (N := some 42) (v := ?_) (a' := ?_) #[true, true, true, true, true, true, true, true, true, true, true, true, true, true, false, false, false, false] rfl rfl (by kernel_rfl) (fun _ _ _ h => h) (Or.inl ⟨by rfl, ?_⟩) ?_ ?_
  rotate_left
  · intro w'
    go_simp
    with_reducible rfl
  rotate_left
  · simp only [Act.put, List.setIfInBounds_toArray, List.set_cons_zero, List.set_cons_succ, i64_w, i32_w]
    rfl
  refine pure_ (i := 14) (N := some 43) (v := ?_) (a' := ?_) #[true, true, true, true, true, true, true, true, true, true, true, true, true, true, true, false, false, false] rfl rfl (by kernel_rfl) (fun _ _ _ h => h) (Or.inl ⟨by rfl, ?_⟩) ?_ ?_
  rotate_left
  · intro w'
    go_simp
    with_reducible rfl
  rotate_left
  · simp only [Act.put, List.setIfInBounds_toArray, List.set_cons_zero, List.set_cons_succ, i64_w, i32_w]
    rfl
  refine pure_ (i := 15) (N := some 44) (v := undef) (a' := ?_) #[true, true, true, true, true, true, true, true, true, true, true, true, true, true, true, true, false, false] rfl rfl (by kernel_rfl) (fun _ _ _ h => h) (Or.inr ⟨by rfl, rfl⟩) ?_ ?_
  rotate_left
  · simp only [Act.put, List.setIfInBounds_toArray, List.set_cons_zero, List.set_cons_succ, i64_w, i32_w]
    rfl
  refine pure_ (i := 16) (N := some 45) (v := undef) (a' := ?_) #[true, true, true, true, true, true, true, true, true, true, true, true, true, true, true, true, true, false] rfl rfl (by kernel_rfl) (fun _ _ _ h => h) (Or.inr ⟨by rfl, rfl⟩) ?_ ?_
  rotate_left
  · simp only [Act.put, List.setIfInBounds_toArray, List.set_cons_zero, List.set_cons_succ, i64_w, i32_w]
    rfl
  refine pure_ (i := 17) (N := some 46) (v := ?_) (a' := ?_) #[true, true, true, true, true, true, true, true, true, true, true, true, true, true, true, true, true, true] rfl rfl (by kernel_rfl) (fun _ _ _ h => h) (Or.inl ⟨by rfl, ?_⟩) ?_ ?_
  rotate_left
  · intro w'
    go_simp
    with_reducible rfl
  rotate_left
  · simp only [Act.put, List.setIfInBounds_toArray, List.set_cons_zero, List.set_cons_succ, i64_w, i32_w]
    rfl
  refine done_ (by kernel_rfl) ?_

  have HB4 : Below w.heap.size w W4 := HB3.out.trans (((Below.refl _ _).drew.trans hb4).mono HB3.out.size)
  have HM4 : MS W4 base B s p st its d0 d1 := HM3.out.below ((Below.refl _ _).drew.trans hb4)
  have c4 := HM4.cell1
  replace HM4 := Aside0.mk HM4
  replace HB4 := Aside0.mk HB4
  clear hb4 HM3 HB3 HT3
  have hfl := Aside0.mk (fail_ms HM4.out (p : Int) 190)
  go_wp2_with fail
  refine hfl.out.mono ?_
  rintro e W5 ⟨rfl, hM5, hb5⟩
  have HF := Aside0.mk (And.intro hM5 ((HB4.out.mono hbw).trans hb5))
  clear hM5 hb5
  go_wp2_with fail
  go_ret
  exact ⟨rfl, HF.out⟩
set_option maxRecDepth 100000 in
set_option maxHeartbeats 4000000 in
theorem number_low {w : World} {base B p : Nat} {s : ByteArray} {st : List UInt8} {its : List S38} {d0 d1 : Int} (h : MS w base B s p st its d0 d1) (HT : Tab w) (hp : p ≤ s.size) (hs : s.size ≤ 1000000000) (k : Int) (hn : Lib.atoiAll (Js.digs (s.data.toList.drop p)) = .ok k) (heq : Lib.itoa k = Js.digs (s.data.toList.drop p)) (hlo : k < -100000000) :
    Calls Tryd.prog 40 #[.pointer (some ⟨B, 0, none⟩)] w fun e w' => e = .returned (.bool false) ∧ MS w' base B s p st its p 190 ∧ Below base w w' := by
  have hlb : decide (k < -100000000) = true := by simp; omega
  obtain ⟨hk0, hk1⟩ := Lib.atoiAll_bounds hn
  have hit := fun W (hT : Tab W) => itoa_calls k (by omega) (by omega) W hT
  have hbw := h.base_le
  have hlt := h.lt
  obtain ⟨n, hn1, hn2, hn3, hn4⟩ := digs_split s p hp
  have htr := fun W => trimLeft_calls (s.extract p s.size) ⟨#[45, 48, 49, 50, 51, 52, 53, 54, 55, 56, 57]⟩ W (by decide) (ascii_of_all (by decide))
  rw [ext_end] at htr
  have htr : ∀ W, Calls Tryd.prog 42 #[.string (s.extract p s.size), .string ⟨#[45, 48, 49, 50, 51, 52, 53, 54, 55, 56, 57]⟩] W fun e w' => e = .returned (.string (S (Lib.trimLeftS (s.data.toList.drop p) Js.dg))) ∧ Below W.heap.size W w' := htr
  obtain ⟨z, hz⟩ : ∃ z, S (Lib.trimLeftS (s.data.toList.drop p) Js.dg) = z := ⟨_, rfl⟩
  have hzs : z.size = s.size - p - n := by rw [← hz, S_size, hn3]
  rw [hz] at htr
  obtain ⟨r, hr⟩ : ∃ r, s.extract p s.size = r := ⟨_, rfl⟩
  have hrs : r.size = s.size - p := by rw [← hr, ByteArray.size_extract]; omega
  rw [hr] at htr hn4
  obtain ⟨d, hd⟩ : ∃ d, r.extract 0 n = d := ⟨_, rfl⟩
  have hds : d.size ≤ 1000000000 := by rw [← hd, ByteArray.size_extract]; omega
  rw [hd] at hn4
  have hat := fun W => atoi_ok d hds k (by rw [hn4]; exact hn) W
  replace htr := Aside0.mk htr
  replace hat := Aside0.mk hat
  obtain ⟨o, v, hM, ho, hb, hst⟩ := h
  obtain ⟨c0, c1, c18, c19, c20, c21, hf⟩ := hM.cells
  have HMS : Aside0 (MS w base B s p st its d0 d1) := ⟨⟨o, v, hM, ho, hb, hst⟩⟩
  replace HT := Aside0.mk HT
  have hbB := Aside0.mk hb
  have hnr : (n : Int) ≤ (r.size : Int) := by omega
  have hsub : (r.size : Int) - (z.size : Int) = (n : Int) := by omega
  have hzr : (z.size : Int) ≤ (r.size : Int) := by omega
  have hrm : (r.size : Int) ≤ 1000000000 := by omega
  have hdl : Aside0 (d.data.toList = Js.digs (s.data.toList.drop p)) := ⟨hn4⟩
  have hn1' := Aside0.mk hn1
  clear hz hn1 hn3 hn4 hrs hM ho hst hf c18 c19 c20 c21 hn hb hzs
  have hSd : S (Lib.itoa k) = d := by rw [heq, ← hdl.out, S_of]
  rw [hSd] at hit
  replace hit := Aside0.mk hit
  clear hSd heq
  have b1 : ((p : Int) ≤ (s.size : Int)) = True := eq_true (by omega)
  go_enter Tryd.func40, Tryd.ntmps40
  go_wp2_with fail
  go_quiet (fail)
  go_wp2_with fail
  refine (htr.out _).mono ?_
  rintro e W2 ⟨rfl, hb2⟩
  have HB2 : Aside0 (Below w.heap.size w W2) := ⟨(grown_below' w nq).trans hb2⟩
  clear hb2
  go_wp2_with fail
  refine (hat.out _).mono ?_
  rintro e W3 ⟨rfl, hb3⟩
  have HB3 : Aside0 (Below w.heap.size w W3) := ⟨HB2.out.trans (hb3.mono HB2.out.size)⟩
  clear hb3 hat htr
  have HM3 := Aside0.mk (HMS.out.below HB3.out)
  have HT3 := Aside0.mk (HT.out.below HB3.out)
  clear HMS HB2 c0 c1 hlt
  go_wp2_with fail
  refine start_ (n := 18) (S := fun w' => True) (ds := []) #[false, false, false, false, false, false, false, false, false, false, false, false, false, false, false, false, false, false] (by kernel_rfl) rfl rfl trivial (fun hHeld => ?_)
  refine pure_ (i := 0) (N := some 29) (v := ?_) (a' := ?_) #[true, false, false, false, false, false, false, false, false, false, false, false, false, false, false, false, false, false] rfl rfl (by kernel_rfl) (fun _ _ _ h => h) (Or.inl ⟨by rfl, ?_⟩) ?_ ?_
  rotate_left
  · intro w'
    go_simp
    with_reducible rfl
  rotate_left
  · simp only [Act.put, List.setIfInBounds_toArray, List.set_cons_zero, List.set_cons_succ, i64_w, i32_w]
    rfl
  refine pure_ (i := 1) (N := some 30) (v := ?_) (a' := ?_) #[true, true, false, false, false, false, false, false, false, false, false, false, false, false, false, false, false, false] rfl rfl (by kernel_rfl) (fun _ _ _ h => h) (Or.inl ⟨by rfl, ?_⟩) ?_ ?_
  rotate_left
  · intro w'
    go_simp
    with_reducible rfl
  rotate_left
  · simp only [Act.put, List.setIfInBounds_toArray, List.set_cons_zero, List.set_cons_succ, i64_w, i32_w]
    rfl
  refine pure_ (i := 2) (N := some 31) (v := ?_) (a' := ?_) #[true, true, true, false, false, false, false, false, false, false, false, false, false, false, false, false, false, false] rfl rfl (by kernel_rfl) (fun _ _ _ h => h) (Or.inl ⟨by rfl, ?_⟩) ?_ ?_
  rotate_left
  · intro w'
    go_simp
    with_reducible rfl
  rotate_left
  · simp only [Act.put, List.setIfInBounds_toArray, List.set_cons_zero, List.set_cons_succ, i64_w, i32_w]
    rfl
  refine pure_ (i := 3) (N := some 32) (v := ?_) (a' := ?_) #[true, true, true, true, false, false, false, false, false, false, false, false, false, false, false, false, false, false] rfl rfl (by kernel_rfl) (fun _ _ _ h => h) (Or.inl ⟨by rfl, ?_⟩) ?_ ?_
  rotate_left
  · intro w'
    go_simp
    with_reducible rfl
  rotate_left
  · simp only [Act.put, List.setIfInBounds_toArray, List.set_cons_zero, List.set_cons_succ, i64_w, i32_w]
    rfl
  refine pure_ (i := 5) (N := some 34) (v := ?_) (a' := ?_) #[true, true, true, true, false, true, false, false, false, false, false, false, false, false, false, false, false, false] rfl rfl (by kernel_rfl) (fun _ _ _ h => h) (Or.inl ⟨by rfl, ?_⟩) ?_ ?_
  rotate_left
  · intro w'
    go_simp
    with_reducible rfl
  rotate_left
  · simp only [Act.put, List.setIfInBounds_toArray, List.set_cons_zero, List.set_cons_succ, i64_w, i32_w]
    rfl
  refine pure_ (i := 6) (N := some 35) (v := ?_) (a' := ?_) #[true, true, true, true, false, true, true, false, false, false, false, false, false, false, false, false, false, false] rfl rfl (by kernel_rfl) (fun _ _ _ h => h) (Or.inl ⟨by rfl, ?_⟩) ?_ ?_
  rotate_left
  · intro w'
    go_simp
    with_reducible rfl
  rotate_left
  · simp only [Act.put, List.setIfInBounds_toArray, List.set_cons_zero, List.set_cons_succ, i64_w, i32_w]
    rfl
  refine pure_ (i := 7) (N := some 36) (v := ?_) (a' := ?_) #[true, true, true, true, false, true, true, true, false, false, false, false, false, false, false, false, false, false] rfl rfl (by kernel_rfl) (fun _ _ _ h => h) (Or.inl ⟨by rfl, ?_⟩) ?_ ?_
  rotate_left
  · intro w'
    go_simp
    with_reducible rfl
  rotate_left
  · simp only [Act.put, List.setIfInBounds_toArray, List.set_cons_zero, List.set_cons_succ, i64_w, i32_w]
    rfl
  refine one_ (i := 4) (N := some 33) #[true, true, true, true, true, true, true, true, false, false, false, false, false, false, false, false, false, false] rfl rfl (by kernel_rfl) (by decide) (fun K hK => ?_)
  refine goes_ Tryd.func30 (by kernel_rfl) rfl #[.int .i64 k] (by rfl) rfl rfl (by simp only [List.map_toArray, List.map_cons, List.map_nil]; rfl) ?_
  with_reducible refine ((hit.out _ (HT3.out.below ((Below.refl _ _).drew)))).mono ?_
  rintro e W4 ⟨rfl, hb4⟩
  refine ⟨_, rfl, ?_⟩
  refine hK.out _ _ trivial (fun hHeld => ?_)
  clear hK K
  refine norm_ (a' := ?_) ?_ ?_
  rotate_left
  · show Act.put _ (some 33) _ = _
    simp only [Act.put, List.setIfInBounds_toArray, List.set_cons_zero, List.set_cons_succ, i64_w, i32_w]
    rfl
  refine pure_ (i := 8) (N := some 37) (v := ?_) (a' := ?_) #[true, true, true, true, true, true, true, true, true, false, false, false, false, false, false, false, false, false] rfl rfl (by kernel_rfl) (fun _ _ _ h => h) (Or.inl ⟨by rfl, ?_⟩) ?_ ?_
  rotate_left
  · intro w'
    go_simp
    with_reducible rfl
  rotate_left
  · simp only [Act.put, List.setIfInBounds_toArray, List.set_cons_zero, List.set_cons_succ, i64_w, i32_w]
    rfl
  refine pure_ (i := 9) (N := some 38) (v := ?_) (a' := ?_) #[true, true, true, true, true, true, true, true, true, true, false, false, false, false, false, false, false, false] rfl rfl (by kernel_rfl) (fun _ _ _ h => h) (Or.inl ⟨by rfl, ?_⟩) ?_ ?_
  rotate_left
  · intro w'
    go_simp
    with_reducible rfl
  rotate_left
  · simp only [Act.put, List.setIfInBounds_toArray, List.set_cons_zero, List.set_cons_succ, i64_w, i32_w]
    rfl
  refine pure_ (i := 10) (N := some 39) (v := ?_) (a' := ?_) #[true, true, true, true, true, true, true, true, true, true, true, false, false, false, false, false, false, false] rfl rfl (by kernel_rfl) (fun _ _ _ h => h) (Or.inl ⟨by rfl, ?_⟩) ?_ ?_
  rotate_left
  · intro w'
    go_simp
    with_reducible rfl
  rotate_left
  · simp only [Act.put, List.setIfInBounds_toArray, List.set_cons_zero, List.set_cons_succ, i64_w, i32_w]
    rfl
  refine pure_ (i := 11) (N := some 40) (v := ?_) (a' := ?_) #[true, true, true, true, true, true, true, true, true, true, true, true, false, false, false, false, false, false] rfl rfl (by kernel_rfl) (fun _ _ _ h => h) (Or.inl ⟨by rfl, ?_⟩) ?_ ?_
  rotate_left
  · intro w'
    go_simp
    with_reducible rfl
  rotate_left
  · simp only [Act.put, List.setIfInBounds_toArray, List.set_cons_zero, List.set_cons_succ, i64_w, i32_w]
    rfl
  refine pure_ (i := 12) (N := some 41) (v := ?_) (a' := ?_) #[true, true, true, true, true, true, true, true, true, true, true, true, true, false, false, false, false, false] rfl rfl (by kernel_rfl) (fun _ _ _ h => h) (Or.inl ⟨by rfl, ?_⟩) ?_ ?_
  rotate_left
  · intro w'
    go_simp
    with_reducible rfl
  rotate_left
  · simp only [Act.put, List.setIfInBounds_toArray, List.set_cons_zero, List.set_cons_succ, i64_w, i32_w]
    rfl
  refine pure_ (i := 13) (N := some 42) (v := ?_) (a' := ?_) #[true, true, true, true, true, true, true, true, true, true, true, true, true, true, false, false, false, false] rfl rfl (by kernel_rfl) (fun _ _ _ h => h) (Or.inl ⟨by rfl, ?_⟩) ?_ ?_
  rotate_left
  · intro w'
    go_simp
    with_reducible rfl
  rotate_left
  · simp only [Act.put, List.setIfInBounds_toArray, List.set_cons_zero, List.set_cons_succ, i64_w, i32_w]
    rfl
  refine pure_ (i := 14) (N := some 43) (v := ?_) (a' := ?_) #[true, true, true, true, true, true, true, true, true, true, true, true, true, true, true, false, false, false] rfl rfl (by kernel_rfl) (fun _ _ _ h => h) (Or.inl ⟨by rfl, ?_⟩) ?_ ?_
  rotate_left
  · intro w'
    go_simp
    with_reducible rfl
  rotate_left
  · simp only [Act.put, List.setIfInBounds_toArray, List.set_cons_zero, List.set_cons_succ, i64_w, i32_w]
    rfl
  refine pure_ (i := 15) (N := some 44) (v := undef) (a' := ?_) #[true, true, true, true, true, true, true, true, true, true, true, true, true, true, true, true, false, false] rfl rfl (by kernel_rfl) (fun _ _ _ h => h) (Or.inr ⟨by rfl, rfl⟩) ?_ ?_
  rotate_left
  · simp only [Act.put, List.setIfInBounds_toArray, List.set_cons_zero, List.set_cons_succ, i64_w, i32_w]
    rfl
  refine pure_ (i := 16) (N := some 45) (v := undef) (a' := ?_) #[true, true, true, true, true, true, true, true, true, true, true, true, true, true, true, true, true, false] rfl rfl (by kernel_rfl) (fun _ _ _ h => h) (Or.inr ⟨by rfl, rfl⟩) ?_ ?_
  rotate_left
  · simp only [Act.put, List.setIfInBounds_toArray, List.set_cons_zero, List.set_cons_succ, i64_w, i32_w]
    rfl
  refine pure_ (i := 17) (N := some 46) (v := ?_) (a' := ?_) #[true, true, true, true, true, true, true, true, true, true, true, true, true, true, true, true, true, true] rfl rfl (by kernel_rfl) (fun _ _ _ h => h) (Or.inl ⟨by rfl, ?_⟩) ?_ ?_
  rotate_left
  · intro w'
    go_simp
    with_reducible rfl
  rotate_left
  · simp only [Act.put, List.setIfInBounds_toArray, List.set_cons_zero, List.set_cons_succ, i64_w, i32_w]
    rfl
  refine done_ (by kernel_rfl) ?_

  have HB4 : Below w.heap.size w W4 := HB3.out.trans (((Below.refl _ _).drew.trans hb4).mono HB3.out.size)
  have HM4 : MS W4 base B s p st its d0 d1 := HM3.out.below ((Below.refl _ _).drew.trans hb4)
  have c4 := HM4.cell1
  replace HM4 := Aside0.mk HM4
  replace HB4 := Aside0.mk HB4
  clear hb4 HM3 HB3 HT3
  have hfl := Aside0.mk (fail_ms HM4.out (p : Int) 190)
  go_wp2_with fail
  refine hfl.out.mono ?_
  rintro e W5 ⟨rfl, hM5, hb5⟩
  have HF := Aside0.mk (And.intro hM5 ((HB4.out.mono hbw).trans hb5))
  clear hM5 hb5
  go_wp2_with fail
  go_ret
  exact ⟨rfl, HF.out⟩
set_option maxRecDepth 100000 in
set_option maxHeartbeats 4000000 in
theorem number_high {w : World} {base B p : Nat} {s : ByteArray} {st : List UInt8} {its : List S38} {d0 d1 : Int} (h : MS w base B s p st its d0 d1) (HT : Tab w) (hp : p ≤ s.size) (hs : s.size ≤ 1000000000) (k : Int) (hn : Lib.atoiAll (Js.digs (s.data.toList.drop p)) = .ok k) (heq : Lib.itoa k = Js.digs (s.data.toList.drop p)) (hhi : 100000000 < k) :
    Calls Tryd.prog 40 #[.pointer (some ⟨B, 0, none⟩)] w fun e w' => e = .returned (.bool false) ∧ MS w' base B s p st its p 190 ∧ Below base w w' := by
  have hlo : -100000000 ≤ k := by omega
  have hlb : decide (k < -100000000) = false := by simp; omega
  have hhb : decide (k > 100000000) = true := by simp; omega
  obtain ⟨hk0, hk1⟩ := Lib.atoiAll_bounds hn
  have hit := fun W (hT : Tab W) => itoa_calls k (by omega) (by omega) W hT
  have hbw := h.base_le
  have hlt := h.lt
  obtain ⟨n, hn1, hn2, hn3, hn4⟩ := digs_split s p hp
  have htr := fun W => trimLeft_calls (s.extract p s.size) ⟨#[45, 48, 49, 50, 51, 52, 53, 54, 55, 56, 57]⟩ W (by decide) (ascii_of_all (by decide))
  rw [ext_end] at htr
  have htr : ∀ W, Calls Tryd.prog 42 #[.string (s.extract p s.size), .string ⟨#[45, 48, 49, 50, 51, 52, 53, 54, 55, 56, 57]⟩] W fun e w' => e = .returned (.string (S (Lib.trimLeftS (s.data.toList.drop p) Js.dg))) ∧ Below W.heap.size W w' := htr
  obtain ⟨z, hz⟩ : ∃ z, S (Lib.trimLeftS (s.data.toList.drop p) Js.dg) = z := ⟨_, rfl⟩
  have hzs : z.size = s.size - p - n := by rw [← hz, S_size, hn3]
  rw [hz] at htr
  obtain ⟨r, hr⟩ : ∃ r, s.extract p s.size = r := ⟨_, rfl⟩
  have hrs : r.size = s.size - p := by rw [← hr, ByteArray.size_extract]; omega
  rw [hr] at htr hn4
  obtain ⟨d, hd⟩ : ∃ d, r.extract 0 n = d := ⟨_, rfl⟩
  have hds : d.size ≤ 1000000000 := by rw [← hd, ByteArray.size_extract]; omega
  rw [hd] at hn4
  have hat := fun W => atoi_ok d hds k (by rw [hn4]; exact hn) W
  replace htr := Aside0.mk htr
  replace hat := Aside0.mk hat
  obtain ⟨o, v, hM, ho, hb, hst⟩ := h
  obtain ⟨c0, c1, c18, c19, c20, c21, hf⟩ := hM.cells
  have HMS : Aside0 (MS w base B s p st its d0 d1) := ⟨⟨o, v, hM, ho, hb, hst⟩⟩
  replace HT := Aside0.mk HT
  have hbB := Aside0.mk hb
  have hnr : (n : Int) ≤ (r.size : Int) := by omega
  have hsub : (r.size : Int) - (z.size : Int) = (n : Int) := by omega
  have hzr : (z.size : Int) ≤ (r.size : Int) := by omega
  have hrm : (r.size : Int) ≤ 1000000000 := by omega
  have hdl : Aside0 (d.data.toList = Js.digs (s.data.toList.drop p)) := ⟨hn4⟩
  have hn1' := Aside0.mk hn1
  clear hz hn1 hn3 hn4 hrs hM ho hst hf c18 c19 c20 c21 hn hb hzs
  have hSd : S (Lib.itoa k) = d := by rw [heq, ← hdl.out, S_of]
  rw [hSd] at hit
  replace hit := Aside0.mk hit
  clear hSd heq
  have b1 : ((p : Int) ≤ (s.size : Int)) = True := eq_true (by omega)
  go_enter Tryd.func40, Tryd.ntmps40
  go_wp2_with fail
  go_quiet (fail)
  go_wp2_with fail
  refine (htr.out _).mono ?_
  rintro e W2 ⟨rfl, hb2⟩
  have HB2 : Aside0 (Below w.heap.size w W2) := ⟨(grown_below' w nq).trans hb2⟩
  clear hb2
  go_wp2_with fail
  refine (hat.out _).mono ?_
  rintro e W3 ⟨rfl, hb3⟩
  have HB3 : Aside0 (Below w.heap.size w W3) := ⟨HB2.out.trans (hb3.mono HB2.out.size)⟩
  clear hb3 hat htr
  have HM3 := Aside0.mk (HMS.out.below HB3.out)
  have HT3 := Aside0.mk (HT.out.below HB3.out)
  clear HMS HB2 c0 c1 hlt
  go_wp2_with fail
  refine start_ (n := 18) (S := fun w' => True) (ds := []) #[false, false, false, false, false, false, false, false, false, false, false, false, false, false, false, false, false, false] (by kernel_rfl) rfl rfl trivial (fun hHeld => ?_)
  refine pure_ (i := 0) (N := some 29) (v := ?_) (a' := ?_) #[true, false, false, false, false, false, false, false, false, false, false, false, false, false, false, false, false, false] rfl rfl (by kernel_rfl) (fun _ _ _ h => h) (Or.inl ⟨by rfl, ?_⟩) ?_ ?_
  rotate_left
  · intro w'
    go_simp
    with_reducible rfl
  rotate_left
  · simp only [Act.put, List.setIfInBounds_toArray, List.set_cons_zero, List.set_cons_succ, i64_w, i32_w]
    rfl
  refine pure_ (i := 1) (N := some 30) (v := ?_) (a' := ?_) #[true, true, false, false, false, false, false, false, false, false, false, false, false, false, false, false, false, false] rfl rfl (by kernel_rfl) (fun _ _ _ h => h) (Or.inl ⟨by rfl, ?_⟩) ?_ ?_
  rotate_left
  · intro w'
    go_simp
    with_reducible rfl
  rotate_left
  · simp only [Act.put, List.setIfInBounds_toArray, List.set_cons_zero, List.set_cons_succ, i64_w, i32_w]
    rfl
  refine pure_ (i := 2) (N := some 31) (v := ?_) (a' := ?_) #[true, true, true, false, false, false, false, false, false, false, false, false, false, false, false, false, false, false] rfl rfl (by kernel_rfl) (fun _ _ _ h => h) (Or.inl ⟨by rfl, ?_⟩) ?_ ?_
  rotate_left
  · intro w'
    go_simp
    with_reducible rfl
  rotate_left
  · simp only [Act.put, List.setIfInBounds_toArray, List.set_cons_zero, List.set_cons_succ, i64_w, i32_w]
    rfl
  refine pure_ (i := 3) (N := some 32) (v := ?_) (a' := ?_) #[true, true, true, true, false, false, false, false, false, false, false, false, false, false, false, false, false, false] rfl rfl (by kernel_rfl) (fun _ _ _ h => h) (Or.inl ⟨by rfl, ?_⟩) ?_ ?_
  rotate_left
  · intro w'
    go_simp
    with_reducible rfl
  rotate_left
  · simp only [Act.put, List.setIfInBounds_toArray, List.set_cons_zero, List.set_cons_succ, i64_w, i32_w]
    rfl
  refine pure_ (i := 5) (N := some 34) (v := ?_) (a' := ?_) #[true, true, true, true, false, true, false, false, false, false, false, false, false, false, false, false, false, false] rfl rfl (by kernel_rfl) (fun _ _ _ h => h) (Or.inl ⟨by rfl, ?_⟩) ?_ ?_
  rotate_left
  · intro w'
    go_simp
    with_reducible rfl
  rotate_left
  · simp only [Act.put, List.setIfInBounds_toArray, List.set_cons_zero, List.set_cons_succ, i64_w, i32_w]
    rfl
  refine pure_ (i := 6) (N := some 35) (v := ?_) (a' := ?_) #[true, true, true, true, false, true, true, false, false, false, false, false, false, false, false, false, false, false] rfl rfl (by kernel_rfl) (fun _ _ _ h => h) (Or.inl ⟨by rfl, ?_⟩) ?_ ?_
  rotate_left
  · intro w'
    go_simp
    with_reducible rfl
  rotate_left
  · simp only [Act.put, List.setIfInBounds_toArray, List.set_cons_zero, List.set_cons_succ, i64_w, i32_w]
    rfl
  refine pure_ (i := 7) (N := some 36) (v := ?_) (a' := ?_) #[true, true, true, true, false, true, true, true, false, false, false, false, false, false, false, false, false, false] rfl rfl (by kernel_rfl) (fun _ _ _ h => h) (Or.inl ⟨by rfl, ?_⟩) ?_ ?_
  rotate_left
  · intro w'
    go_simp
    with_reducible rfl
  rotate_left
  · simp only [Act.put, List.setIfInBounds_toArray, List.set_cons_zero, List.set_cons_succ, i64_w, i32_w]
    rfl
  refine one_ (i := 4) (N := some 33) #[true, true, true, true, true, true, true, true, false, false, false, false, false, false, false, false, false, false] rfl rfl (by kernel_rfl) (by decide) (fun K hK => ?_)
  refine goes_ Tryd.func30 (by kernel_rfl) rfl #[.int .i64 k] (by rfl) rfl rfl (by simp only [List.map_toArray, List.map_cons, List.map_nil]; rfl) ?_
  with_reducible refine ((hit.out _ (HT3.out.below ((Below.refl _ _).drew)))).mono ?_
  rintro e W4 ⟨rfl, hb4⟩
  refine ⟨_, rfl, ?_⟩
  refine hK.out _ _ trivial (fun hHeld => ?_)
  clear hK K
  refine norm_ (a' := ?_) ?_ ?_
  rotate_left
  · show Act.put _ (some 33) _ = _
    simp only [Act.put, List.setIfInBounds_toArray, List.set_cons_zero, List.set_cons_succ, i64_w, i32_w]
    rfl
  refine pure_ (i := 8) (N := some 37) (v := ?_) (a' := ?_) #[true, true, true, true, true, true, true, true, true, false, false, false, false, false, false, false, false, false] rfl rfl (by kernel_rfl) (fun _ _ _ h => h) (Or.inl ⟨by rfl, ?_⟩) ?_ ?_
  rotate_left
  · intro w'
    go_simp
    with_reducible rfl
  rotate_left
  · simp only [Act.put, List.setIfInBounds_toArray, List.set_cons_zero, List.set_cons_succ, i64_w, i32_w]
    rfl
  refine pure_ (i := 9) (N := some 38) (v := ?_) (a' := ?_) #[true, true, true, true, true, true, true, true, true, true, false, false, false, false, false, false, false, false] rfl rfl (by kernel_rfl) (fun _ _ _ h => h) (Or.inl ⟨by rfl, ?_⟩) ?_ ?_
  rotate_left
  · intro w'
    go_simp
    with_reducible rfl
  rotate_left
  · simp only [Act.put, List.setIfInBounds_toArray, List.set_cons_zero, List.set_cons_succ, i64_w, i32_w]
    rfl
  refine pure_ (i := 10) (N := some 39) (v := ?_) (a' := ?_) #[true, true, true, true, true, true, true, true, true, true, true, false, false, false, false, false, false, false] rfl rfl (by kernel_rfl) (fun _ _ _ h => h) (Or.inl ⟨by rfl, ?_⟩) ?_ ?_
  rotate_left
  · intro w'
    go_simp
    with_reducible rfl
  rotate_left
  · simp only [Act.put, List.setIfInBounds_toArray, List.set_cons_zero, List.set_cons_succ, i64_w, i32_w]
    rfl
  refine pure_ (i := 11) (N := some 40) (v := ?_) (a' := ?_) #[true, true, true, true, true, true, true, true, true, true, true, true, false, false, false, false, false, false] rfl rfl (by kernel_rfl) (fun _ _ _ h => h) (Or.inl ⟨by rfl, ?_⟩) ?_ ?_
  rotate_left
  · intro w'
    go_simp
    with_reducible rfl
  rotate_left
  · simp only [Act.put, List.setIfInBounds_toArray, List.set_cons_zero, List.set_cons_succ, i64_w, i32_w]
    rfl
  refine pure_ (i := 12) (N := some 41) (v := ?_) (a' := ?_) #[true, true, true, true, true, true, true, true, true, true, true, true, true, false, false, false, false, false] rfl rfl (by kernel_rfl) (fun _ _ _ h => h) (Or.inl ⟨by rfl, ?_⟩) ?_ ?_
  rotate_left
  · intro w'
    go_simp
    with_reducible rfl
  rotate_left
  · simp only [Act.put, List.setIfInBounds_toArray, List.set_cons_zero, List.set_cons_succ, i64_w, i32_w]
    rfl
  refine pure_ (i := 13) (N := some 42) (v := ?_) (a' := ?_) #[true, true, true, true, true, true, true, true, true, true, true, true, true, true, false, false, false, false] rfl rfl (by kernel_rfl) (fun _ _ _ h => h) (Or.inl ⟨by rfl, ?_⟩) ?_ ?_
  rotate_left
  · intro w'
    go_simp
    with_reducible rfl
  rotate_left
  · simp only [Act.put, List.setIfInBounds_toArray, List.set_cons_zero, List.set_cons_succ, i64_w, i32_w]
    rfl
  refine pure_ (i := 14) (N := some 43) (v := ?_) (a' := ?_) #[true, true, true, true, true, true, true, true, true, true, true, true, true, true, true, false, false, false] rfl rfl (by kernel_rfl) (fun _ _ _ h => h) (Or.inl ⟨by rfl, ?_⟩) ?_ ?_
  rotate_left
  · intro w'
    go_simp
    with_reducible rfl
  rotate_left
  · simp only [Act.put, List.setIfInBounds_toArray, List.set_cons_zero, List.set_cons_succ, i64_w, i32_w]
    rfl
  refine pure_ (i := 15) (N := some 44) (v := ?_) (a' := ?_) #[true, true, true, true, true, true, true, true, true, true, true, true, true, true, true, true, false, false] rfl rfl (by kernel_rfl) (fun _ _ _ h => h) (Or.inl ⟨by rfl, ?_⟩) ?_ ?_
  rotate_left
  · intro w'
    go_simp
    with_reducible rfl
  rotate_left
  · simp only [Act.put, List.setIfInBounds_toArray, List.set_cons_zero, List.set_cons_succ, i64_w, i32_w]
    rfl
  refine pure_ (i := 16) (N := some 45) (v := ?_) (a' := ?_) #[true, true, true, true, true, true, true, true, true, true, true, true, true, true, true, true, true, false] rfl rfl (by kernel_rfl) (fun _ _ _ h => h) (Or.inl ⟨by rfl, ?_⟩) ?_ ?_
  rotate_left
  · intro w'
    go_simp
    with_reducible rfl
  rotate_left
  · simp only [Act.put, List.setIfInBounds_toArray, List.set_cons_zero, List.set_cons_succ, i64_w, i32_w]
    rfl
  refine pure_ (i := 17) (N := some 46) (v := ?_) (a' := ?_) #[true, true, true, true, true, true, true, true, true, true, true, true, true, true, true, true, true, true] rfl rfl (by kernel_rfl) (fun _ _ _ h => h) (Or.inl ⟨by rfl, ?_⟩) ?_ ?_
  rotate_left
  · intro w'
    go_simp
    with_reducible rfl
  rotate_left
  · simp only [Act.put, List.setIfInBounds_toArray, List.set_cons_zero, List.set_cons_succ, i64_w, i32_w]
    rfl
  refine done_ (by kernel_rfl) ?_

  have HB4 : Below w.heap.size w W4 := HB3.out.trans (((Below.refl _ _).drew.trans hb4).mono HB3.out.size)
  have HM4 : MS W4 base B s p st its d0 d1 := HM3.out.below ((Below.refl _ _).drew.trans hb4)
  have c4 := HM4.cell1
  replace HM4 := Aside0.mk HM4
  replace HB4 := Aside0.mk HB4
  clear hb4 HM3 HB3 HT3
  have hfl := Aside0.mk (fail_ms HM4.out (p : Int) 190)
  go_wp2_with fail
  refine hfl.out.mono ?_
  rintro e W5 ⟨rfl, hM5, hb5⟩
  have HF := Aside0.mk (And.intro hM5 ((HB4.out.mono hbw).trans hb5))
  clear hM5 hb5
  go_wp2_with fail
  go_ret
  exact ⟨rfl, HF.out⟩
set_option maxRecDepth 100000 in
set_option maxHeartbeats 4000000 in
theorem number_good {w : World} {base B p : Nat} {s : ByteArray} {st : List UInt8} {its : List S38} {d0 d1 : Int} (h : MS w base B s p st its d0 d1) (HT : Tab w) (hp : p ≤ s.size) (hs : s.size ≤ 1000000000) (k : Int) (hn : Lib.atoiAll (Js.digs (s.data.toList.drop p)) = .ok k) (heq : Lib.itoa k = Js.digs (s.data.toList.drop p)) (hlo : -100000000 ≤ k) (hhi : k ≤ 100000000) (hil : its.length ≤ 1000000000) :
    Calls Tryd.prog 40 #[.pointer (some ⟨B, 0, none⟩)] w fun e w' => e = .returned (.bool true) ∧ MS w' base B s (p + (Js.digs (s.data.toList.drop p)).length) st (its ++ [⟨1, k, ByteArray.empty, (p : Int)⟩]) d0 d1 ∧ Below base w w' := by
  have hlb : decide (k < -100000000) = false := by simp; omega
  have hhb : decide (k > 100000000) = false := by simp; omega
  obtain ⟨hk0, hk1⟩ := Lib.atoiAll_bounds hn
  have hit := fun W (hT : Tab W) => itoa_calls k (by omega) (by omega) W hT
  have hbw := h.base_le
  have hlt := h.lt
  obtain ⟨n, hn1, hn2, hn3, hn4⟩ := digs_split s p hp
  have htr := fun W => trimLeft_calls (s.extract p s.size) ⟨#[45, 48, 49, 50, 51, 52, 53, 54, 55, 56, 57]⟩ W (by decide) (ascii_of_all (by decide))
  rw [ext_end] at htr
  have htr : ∀ W, Calls Tryd.prog 42 #[.string (s.extract p s.size), .string ⟨#[45, 48, 49, 50, 51, 52, 53, 54, 55, 56, 57]⟩] W fun e w' => e = .returned (.string (S (Lib.trimLeftS (s.data.toList.drop p) Js.dg))) ∧ Below W.heap.size W w' := htr
  obtain ⟨z, hz⟩ : ∃ z, S (Lib.trimLeftS (s.data.toList.drop p) Js.dg) = z := ⟨_, rfl⟩
  have hzs : z.size = s.size - p - n := by rw [← hz, S_size, hn3]
  rw [hz] at htr
  obtain ⟨r, hr⟩ : ∃ r, s.extract p s.size = r := ⟨_, rfl⟩
  have hrs : r.size = s.size - p := by rw [← hr, ByteArray.size_extract]; omega
  rw [hr] at htr hn4
  obtain ⟨d, hd⟩ : ∃ d, r.extract 0 n = d := ⟨_, rfl⟩
  have hds : d.size ≤ 1000000000 := by rw [← hd, ByteArray.size_extract]; omega
  rw [hd] at hn4
  have hat := fun W => atoi_ok d hds k (by rw [hn4]; exact hn) W
  replace htr := Aside0.mk htr
  replace hat := Aside0.mk hat
  obtain ⟨o, v, hM, ho, hb, hst⟩ := h
  obtain ⟨c0, c1, c18, c19, c20, c21, hf⟩ := hM.cells
  have HMS : Aside0 (MS w base B s p st its d0 d1) := ⟨⟨o, v, hM, ho, hb, hst⟩⟩
  replace HT := Aside0.mk HT
  have hbB := Aside0.mk hb
  have hnr : (n : Int) ≤ (r.size : Int) := by omega
  have hsub : (r.size : Int) - (z.size : Int) = (n : Int) := by omega
  have hzr : (z.size : Int) ≤ (r.size : Int) := by omega
  have hrm : (r.size : Int) ≤ 1000000000 := by omega
  have hdl : Aside0 (d.data.toList = Js.digs (s.data.toList.drop p)) := ⟨hn4⟩
  have hn1' := Aside0.mk hn1
  clear hz hn1 hn3 hn4 hrs hM ho hst hf c18 c19 c20 c21 hn hb hzs
  have hSd : S (Lib.itoa k) = d := by rw [heq, ← hdl.out, S_of]
  rw [hSd] at hit
  replace hit := Aside0.mk hit
  clear hSd heq
  have b1 : ((p : Int) ≤ (s.size : Int)) = True := eq_true (by omega)
  go_enter Tryd.func40, Tryd.ntmps40
  go_wp2_with fail
  go_quiet (fail)
  go_wp2_with fail
  refine (htr.out _).mono ?_
  rintro e W2 ⟨rfl, hb2⟩
  have HB2 : Aside0 (Below w.heap.size w W2) := ⟨(grown_below' w nq).trans hb2⟩
  clear hb2
  go_wp2_with fail
  refine (hat.out _).mono ?_
  rintro e W3 ⟨rfl, hb3⟩
  have HB3 : Aside0 (Below w.heap.size w W3) := ⟨HB2.out.trans (hb3.mono HB2.out.size)⟩
  clear hb3 hat htr
  have HM3 := Aside0.mk (HMS.out.below HB3.out)
  have HT3 := Aside0.mk (HT.out.below HB3.out)
  clear HMS HB2 c0 c1 hlt
  go_wp2_with fail
  refine start_ (n := 18) (S := fun w' => True) (ds := []) #[false, false, false, false, false, false, false, false, false, false, false, false, false, false, false, false, false, false] (by kernel_rfl) rfl rfl trivial (fun hHeld => ?_)
  refine pure_ (i := 0) (N := some 29) (v := ?_) (a' := ?_) #[true, false, false, false, false, false, false, false, false, false, false, false, false, false, false, false, false, false] rfl rfl (by kernel_rfl) (fun _ _ _ h => h) (Or.inl ⟨by rfl, ?_⟩) ?_ ?_
  rotate_left
  · intro w'
    go_simp
    with_reducible rfl
  rotate_left
  · simp only [Act.put, List.setIfInBounds_toArray, List.set_cons_zero, List.set_cons_succ, i64_w, i32_w]
    rfl
  refine pure_ (i := 1) (N := some 30) (v := ?_) (a' := ?_) #[true, true, false, false, false, false, false, false, false, false, false, false, false, false, false, false, false, false] rfl rfl (by kernel_rfl) (fun _ _ _ h => h) (Or.inl ⟨by rfl, ?_⟩) ?_ ?_
  rotate_left
  · intro w'
    go_simp
    with_reducible rfl
  rotate_left
  · simp only [Act.put, List.setIfInBounds_toArray, List.set_cons_zero, List.set_cons_succ, i64_w, i32_w]
    rfl
  refine pure_ (i := 2) (N := some 31) (v := ?_) (a' := ?_) #[true, true, true, false, false, false, false, false, false, false, false, false, false, false, false, false, false, false] rfl rfl (by kernel_rfl) (fun _ _ _ h => h) (Or.inl ⟨by rfl, ?_⟩) ?_ ?_
  rotate_left
  · intro w'
    go_simp
    with_reducible rfl
  rotate_left
  · simp only [Act.put, List.setIfInBounds_toArray, List.set_cons_zero, List.set_cons_succ, i64_w, i32_w]
    rfl
  refine pure_ (i := 3) (N := some 32) (v := ?_) (a' := ?_) #[true, true, true, true, false, false, false, false, false, false, false, false, false, false, false, false, false, false] rfl rfl (by kernel_rfl) (fun _ _ _ h => h) (Or.inl ⟨by rfl, ?_⟩) ?_ ?_
  rotate_left
  · intro w'
    go_simp
    with_reducible rfl
  rotate_left
  · simp only [Act.put, List.setIfInBounds_toArray, List.set_cons_zero, List.set_cons_succ, i64_w, i32_w]
    rfl
  refine pure_ (i := 5) (N := some 34) (v := ?_) (a' := ?_) #[true, true, true, true, false, true, false, false, false, false, false, false, false, false, false, false, false, false] rfl rfl (by kernel_rfl) (fun _ _ _ h => h) (Or.inl ⟨by rfl, ?_⟩) ?_ ?_
  rotate_left
  · intro w'
    go_simp
    with_reducible rfl
  rotate_left
  · simp only [Act.put, List.setIfInBounds_toArray, List.set_cons_zero, List.set_cons_succ, i64_w, i32_w]
    rfl
  refine pure_ (i := 6) (N := some 35) (v := ?_) (a' := ?_) #[true, true, true, true, false, true, true, false, false, false, false, false, false, false, false, false, false, false] rfl rfl (by kernel_rfl) (fun _ _ _ h => h) (Or.inl ⟨by rfl, ?_⟩) ?_ ?_
  rotate_left
  · intro w'
    go_simp
    with_reducible rfl
  rotate_left
  · simp only [Act.put, List.setIfInBounds_toArray, List.set_cons_zero, List.set_cons_succ, i64_w, i32_w]
    rfl
  refine pure_ (i := 7) (N := some 36) (v := ?_) (a' := ?_) #[true, true, true, true, false, true, true, true, false, false, false, false, false, false, false, false, false, false] rfl rfl (by kernel_rfl) (fun _ _ _ h => h) (Or.inl ⟨by rfl, ?_⟩) ?_ ?_
  rotate_left
  · intro w'
    go_simp
    with_reducible rfl
  rotate_left
  · simp only [Act.put, List.setIfInBounds_toArray, List.set_cons_zero, List.set_cons_succ, i64_w, i32_w]
    rfl
  refine one_ (i := 4) (N := some 33) #[true, true, true, true, true, true, true, true, false, false, false, false, false, false, false, false, false, false] rfl rfl (by kernel_rfl) (by decide) (fun K hK => ?_)
  refine goes_ Tryd.func30 (by kernel_rfl) rfl #[.int .i64 k] (by rfl) rfl rfl (by simp only [List.map_toArray, List.map_cons, List.map_nil]; rfl) ?_
  with_reducible refine ((hit.out _ (HT3.out.below ((Below.refl _ _).drew)))).mono ?_
  rintro e W4 ⟨rfl, hb4⟩
  refine ⟨_, rfl, ?_⟩
  refine hK.out _ _ trivial (fun hHeld => ?_)
  clear hK K
  refine norm_ (a' := ?_) ?_ ?_
  rotate_left
  · show Act.put _ (some 33) _ = _
    simp only [Act.put, List.setIfInBounds_toArray, List.set_cons_zero, List.set_cons_succ, i64_w, i32_w]
    rfl
  refine pure_ (i := 8) (N := some 37) (v := ?_) (a' := ?_) #[true, true, true, true, true, true, true, true, true, false, false, false, false, false, false, false, false, false] rfl rfl (by kernel_rfl) (fun _ _ _ h => h) (Or.inl ⟨by rfl, ?_⟩) ?_ ?_
  rotate_left
  · intro w'
    go_simp
    with_reducible rfl
  rotate_left
  · simp only [Act.put, List.setIfInBounds_toArray, List.set_cons_zero, List.set_cons_succ, i64_w, i32_w]
    rfl
  refine pure_ (i := 9) (N := some 38) (v := ?_) (a' := ?_) #[true, true, true, true, true, true, true, true, true, true, false, false, false, false, false, false, false, false] rfl rfl (by kernel_rfl) (fun _ _ _ h => h) (Or.inl ⟨by rfl, ?_⟩) ?_ ?_
  rotate_left
  · intro w'
    go_simp
    with_reducible rfl
  rotate_left
  · simp only [Act.put, List.setIfInBounds_toArray, List.set_cons_zero, List.set_cons_succ, i64_w, i32_w]
    rfl
  refine pure_ (i := 10) (N := some 39) (v := ?_) (a' := ?_) #[true, true, true, true, true, true, true, true, true, true, true, false, false, false, false, false, false, false] rfl rfl (by kernel_rfl) (fun _ _ _ h => h) (Or.inl ⟨by rfl, ?_⟩) ?_ ?_
  rotate_left
  · intro w'
    go_simp
    with_reducible rfl
  rotate_left
  · simp only [Act.put, List.setIfInBounds_toArray, List.set_cons_zero, List.set_cons_succ, i64_w, i32_w]
    rfl
  refine pure_ (i := 11) (N := some 40) (v := ?_) (a' := ?_) #[true, true, true, true, true, true, true, true, true, true, true, true, false, false, false, false, false, false] rfl rfl (by kernel_rfl) (fun _ _ _ h => h) (Or.inl ⟨by rfl, ?_⟩) ?_ ?_
  rotate_left
  · intro w'
    go_simp
    with_reducible rfl
  rotate_left
  · simp only [Act.put, List.setIfInBounds_toArray, List.set_cons_zero, List.set_cons_succ, i64_w, i32_w]
    rfl
  refine pure_ (i := 12) (N := some 41) (v := ?_) (a' := ?_) #[true, true, true, true, true, true, true, true, true, true, true, true, true, false, false, false, false, false] rfl rfl (by kernel_rfl) (fun _ _ _ h => h) (Or.inl ⟨by rfl, ?_⟩) ?_ ?_
  rotate_left
  · intro w'
    go_simp
    with_reducible rfl
  rotate_left
  · simp only [Act.put, List.setIfInBounds_toArray, List.set_cons_zero, List.set_cons_succ, i64_w, i32_w]
    rfl
  refine pure_ (i := 13) (N := some 42) (v := ?_) (a' := ?_) #[true, true, true, true, true, true, true, true, true, true, true, true, true, true, false, false, false, false] rfl rfl (by kernel_rfl) (fun _ _ _ h => h) (Or.inl ⟨by rfl, ?_⟩) ?_ ?_
  rotate_left
  · intro w'
    go_simp
    with_reducible rfl
  rotate_left
  · simp only [Act.put, List.setIfInBounds_toArray, List.set_cons_zero, List.set_cons_succ, i64_w, i32_w]
    rfl
  refine pure_ (i := 14) (N := some 43) (v := ?_) (a' := ?_) #[true, true, true, true, true, true, true, true, true, true, true, true, true, true, true, false, false, false] rfl rfl (by kernel_rfl) (fun _ _ _ h => h) (Or.inl ⟨by rfl, ?_⟩) ?_ ?_
  rotate_left
  · intro w'
    go_simp
    with_reducible rfl
  rotate_left
  · simp only [Act.put, List.setIfInBounds_toArray, List.set_cons_zero, List.set_cons_succ, i64_w, i32_w]
    rfl
  refine pure_ (i := 15) (N := some 44) (v := ?_) (a' := ?_) #[true, true, true, true, true, true, true, true, true, true, true, true, true, true, true, true, false, false] rfl rfl (by kernel_rfl) (fun _ _ _ h => h) (Or.inl ⟨by rfl, ?_⟩) ?_ ?_
  rotate_left
  · intro w'
    go_simp
    with_reducible rfl
  rotate_left
  · simp only [Act.put, List.setIfInBounds_toArray, List.set_cons_zero, List.set_cons_succ, i64_w, i32_w]
    rfl
  refine pure_ (i := 16) (N := some 45) (v := ?_) (a' := ?_) #[true, true, true, true, true, true, true, true, true, true, true, true, true, true, true, true, true, false] rfl rfl (by kernel_rfl) (fun _ _ _ h => h) (Or.inl ⟨by rfl, ?_⟩) ?_ ?_
  rotate_left
  · intro w'
    go_simp
    with_reducible rfl
  rotate_left
  · simp only [Act.put, List.setIfInBounds_toArray, List.set_cons_zero, List.set_cons_succ, i64_w, i32_w]
    rfl
  refine pure_ (i := 17) (N := some 46) (v := ?_) (a' := ?_) #[true, true, true, true, true, true, true, true, true, true, true, true, true, true, true, true, true, true] rfl rfl (by kernel_rfl) (fun _ _ _ h => h) (Or.inl ⟨by rfl, ?_⟩) ?_ ?_
  rotate_left
  · intro w'
    go_simp
    with_reducible rfl
  rotate_left
  · simp only [Act.put, List.setIfInBounds_toArray, List.set_cons_zero, List.set_cons_succ, i64_w, i32_w]
    rfl
  refine done_ (by kernel_rfl) ?_

  have HB4 : Below w.heap.size w W4 := HB3.out.trans (((Below.refl _ _).drew.trans hb4).mono HB3.out.size)
  have HM4 : MS W4 base B s p st its d0 d1 := HM3.out.below ((Below.refl _ _).drew.trans hb4)
  have c4 := HM4.cell1
  replace HM4 := Aside0.mk HM4
  replace HB4 := Aside0.mk HB4
  clear hb4 HM3 HB3 HT3
  have hpt := Aside0.mk (put_ms HM4.out hil ⟨1, k, ByteArray.empty, (p : Int)⟩)
  go_wp2_with fail
  refine hpt.out.mono ?_
  rintro e W5 ⟨rfl, hM5, hb5⟩
  have c5 := hM5.cell1
  have f5 := hM5.froz 1
  have HM5 := Aside0.mk hM5
  have HB5 := Aside0.mk ((HB4.out.mono hbw).trans hb5)
  clear hM5 hb5 c4 hpt
  have hpn : (p : Int) + (n : Int) ≤ 1000000000 := by omega
  go_wp2_with fail
  go_ret
  have e1 : (p : Int) + (n : Int) = ((p + (Js.digs (s.data.toList.drop p)).length : Nat) : Int) := by rw [hn1'.out]; omega
  rw [e1]
  refine ⟨rfl, ?_⟩
  have h6 := HM5.out.put (w' := W5.setCell ⟨B, 1, none⟩ (.int .i64 ((p + (Js.digs (s.data.toList.drop p)).length : Nat) : Int))) (p' := p + (Js.digs (s.data.toList.drop p)).length) (e0 := d0) (e1 := d1) (fun o v hM => hM.set 1 _ rfl) (grown_set _ _ _ _)
  exact ⟨h6.1, HB5.out.trans h6.2⟩
/-- number, as the plain function has it. -/
theorem number_ms {w : World} {base B p : Nat} {s : ByteArray} {st : List UInt8} {its : List S38} {d0 d1 : Int} (h : MS w base B s p st its d0 d1) (HT : Tab w) (hp : p ≤ s.size) (hs : s.size ≤ 1000000000) (hil : its.length ≤ 1000000000) :
    Calls Tryd.prog 40 #[.pointer (some ⟨B, 0, none⟩)] w fun e w' => match Js.num (Js.digs (s.data.toList.drop p)) with
      | some k => e = .returned (.bool true) ∧ MS w' base B s (p + (Js.digs (s.data.toList.drop p)).length) st (its ++ [⟨1, k, ByteArray.empty, (p : Int)⟩]) d0 d1 ∧ Below base w w'
      | none => e = .returned (.bool false) ∧ MS w' base B s p st its p 190 ∧ Below base w w' := by
  unfold Js.num
  cases hc : Lib.atoiAll (Js.digs (s.data.toList.drop p)) with
  | ok k =>
    by_cases h1 : Lib.itoa k = Js.digs (s.data.toList.drop p)
    · by_cases h2 : -100000000 ≤ k
      · by_cases h3 : k ≤ 100000000
        · simp only [h1, h2, h3, and_self, if_true]
          exact number_good h HT hp hs k hc h1 h2 h3 hil
        · simp only [h1, h2, h3, and_false, if_false]
          exact number_high h HT hp hs k hc h1 (by omega)
      · simp only [h1, h2, false_and, and_false, if_false]
        exact number_low h HT hp hs k hc h1 (by omega)
    · simp only [h1, false_and, if_false]
      exact number_ne h HT hp hs k hc h1
  | range => exact number_bad h HT hp hs (fun v => by rw [hc]; simp)
  | _ => exact number_bad h HT hp hs (fun v => by rw [hc]; simp)
end Go.Proofs.YtainnkpoibgkcaaDoor
