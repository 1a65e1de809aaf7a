/- jsonic's machine: peek and put, walked by hand. Conditions: the machine lies as told. -/
import Derived.Test.YtainnkpoibgkcaaDoorGivenA
import Derived.Test.YtainnkpoibgkcaaDoorPlain
import Derived.Test.YtainnkpoibgkcaaDoorShelf
namespace Go.Proofs.YtainnkpoibgkcaaDoor
set_option linter.unusedVariables false
set_option linter.unusedSimpArgs false
open Go.RowKit Go.Proofs.YtainnkpoibgkcaaDoor.PAll Go.Proofs.YtainnkpoibgkcaaDoorW.PrintWords Go.Proofs.YtainnkpoibgkcaaDoorW.PrintLast

abbrev S (l : List UInt8) : ByteArray := ⟨l.toArray⟩
theorem S_of (s : ByteArray) : S s.data.toList = s := by simp [S]
theorem S_size (l : List UInt8) : (S l).size = l.length := by simp [S, ByteArray.size]
theorem S_data (l : List UInt8) : (S l).data.toList = l := by simp [S]
theorem size_len (s : ByteArray) : s.data.toList.length = s.size := rfl
theorem ext_data (s : ByteArray) (a b : Nat) : (s.extract a b).data.toList = (s.data.toList.drop a).take (b - a) := by
  rw [ByteArray.data_extract, Array.toList_extract]
theorem ext_end (s : ByteArray) (a : Nat) : (s.extract a s.size).data.toList = s.data.toList.drop a := by
  rw [ext_data]; exact List.take_of_length_le (by rw [List.length_drop]; exact Nat.le_refl _)

theorem trimLeft_calls (s : ByteArray) (cs : ByteArray) (W : World) (h1 : cs.size < 4294967281) (h2 : ∀ (j : Nat) (b : UInt8), cs.data.toList[j]? = some b → b.toNat < 128) :
    Calls Tryd.prog 42 #[.string s, .string cs] W fun e w' => e = .returned (.string (S (Lib.trimLeftS s.data.toList cs.data.toList))) ∧ Below W.heap.size W w' :=
  Any.strings_TrimLeft_laid Tryd.lays161 (by kernel_rfl) s cs W h1 h2

theorem IsM.below {w w' : World} {B : Nat} {s : ByteArray} {p d d0 d1 : Int} {o : Nat → Int} {v : Value} (h : IsM w B s p o d v d0 d1) (hb : Below w.heap.size w w') : IsM w' B s p o d v d0 d1 := by
  have := h.lt
  unfold IsM at h ⊢
  rw [hb.block B this]; exact h
theorem grown_below {w w' : World} (hb : Below w.heap.size w w') (row : Option Nat) : w.grownBy w' row := ⟨hb.os, hb.tape, hb.output, hb.size, fun k hk _ => hb.block k hk⟩

theorem Js.hd_drop (s : ByteArray) (q : Nat) (h : q < s.size) : Js.hd (s.data.toList.drop q) = ((s[q]'h).toNat : Int) := by
  rw [List.drop_eq_getElem_cons (by rw [size_len]; exact h)]
  rfl
theorem grown_drewN (w : World) (n : Nat) (row : Option Nat) : w.grownBy (w.drewN n) row := ⟨rfl, rfl, rfl, Nat.le_refl _, fun _ _ _ => rfl⟩

set_option maxRecDepth 100000 in
set_option maxHeartbeats 2000000 in
theorem peek_calls {w : World} {B : Nat} {s : ByteArray} {p : Nat} {d d0 d1 : Int} {o : Nat → Int} {v : Value} (h : IsM w B s p o d v d0 d1) (hp : p ≤ s.size) (hs : s.size ≤ 1000000000) (q : Nat) (hq : q + (Js.skip (s.data.toList.drop p)).length = s.size) :
    Calls Tryd.prog 27 #[.pointer (some ⟨B, 0, none⟩)] w fun e w' => e = .returned (.int .u8 (Js.hd (Js.skip (s.data.toList.drop p)))) ∧ IsM w' B s q o d v d0 d1 ∧ w.grownBy w' (some B) := by
  have htr := fun W => trimLeft_calls (s.extract p s.size) ⟨#[9, 10, 13, 32]⟩ W (by decide) (ascii_of_all (by decide))
  rw [ext_end] at htr
  have he : Lib.trimLeftS (s.data.toList.drop p) ([9, 10, 13, 32] : List UInt8) = Js.skip (s.data.toList.drop p) := rfl
  have htr : ∀ W, Calls Tryd.prog 42 #[.string (s.extract p s.size), .string ⟨#[9, 10, 13, 32]⟩] W fun e w' => e = .returned (.string (S (Js.skip (s.data.toList.drop p)))) ∧ Below W.heap.size W w' := htr
  have hd : (Js.skip (s.data.toList.drop p)) = s.data.toList.drop q := by
    have h1 := List.suffix_iff_eq_drop.1 ((Js.skip_suffix (s.data.toList.drop p)).trans (List.drop_suffix p _))
    rw [size_len] at h1
    rw [h1]
    congr 1
    omega
  obtain ⟨r, hr⟩ : ∃ r, Js.skip (s.data.toList.drop p) = r := ⟨_, rfl⟩
  rw [hr] at htr hd hq ⊢
  obtain ⟨z, hz⟩ : ∃ z, S r = z := ⟨_, rfl⟩
  have hzs : z.size = r.length := by rw [← hz, S_size]
  rw [hz] at htr
  have hzq : (z.size : Int) = (s.size : Int) - (q : Int) := by omega
  have hqs : q ≤ s.size := by omega
  have HD := Aside0.mk hd
  replace htr := Aside0.mk htr
  obtain ⟨c0, c1, c18, c19, c20, c21, hf⟩ := h.cells
  have f1 := hf 1
  have hM := Aside0.mk h
  have hlt := h.lt
  clear hr hz hd hf h c18 c19 c20 c21 hzs
  have b1 : ((p : Int) ≤ (s.size : Int)) = True := eq_true (by omega)
  go_enter Tryd.func27, Tryd.ntmps27
  go_wp2_with fail
  refine start_ (n := 21) (S := fun w' => w'.cell? ⟨B, 0, none⟩ = some (.string s) ∧ w'.cell? ⟨B, 1, none⟩ = some (.int .i64 p)) (ds := [20]) #[false, false, false, false, false, false, false, false, false, false, false, false, false, false, false, false, false, false, false, false, false] (by kernel_rfl) rfl rfl ⟨c0, c1⟩ (fun hHeld => ?_)
  refine pure_ (i := 0) (N := some 3) (v := ?_) (a' := ?_) #[true, false, false, false, false, false, false, false, false, false, false, false, false, false, false, false, false, false, false, false, false] rfl rfl (by kernel_rfl) (fun _ _ _ h => h) (Or.inl ⟨by rfl, ?_⟩) ?_ ?_
  rotate_left
  · intro w'
    go_simp
    with_reducible rfl
  rotate_left
  · simp only [Act.put, List.setIfInBounds_toArray, List.set_cons_zero, List.set_cons_succ, i64_w, i32_w]
    rfl
  refine pure_ (i := 1) (N := some 4) (v := ?_) (a' := ?_) #[true, true, false, false, false, false, false, false, false, false, false, false, false, false, false, false, false, false, false, false, false] rfl rfl (by kernel_rfl) (fun _ _ _ h => h) (Or.inl ⟨by rfl, ?_⟩) ?_ ?_
  rotate_left
  · intro w'
    go_simp
    with_reducible rfl
  rotate_left
  · simp only [Act.put, List.setIfInBounds_toArray, List.set_cons_zero, List.set_cons_succ, i64_w, i32_w]
    rfl
  refine pure_ (i := 2) (N := some 5) (v := ?_) (a' := ?_) #[true, true, true, false, false, false, false, false, false, false, false, false, false, false, false, false, false, false, false, false, false] rfl rfl (by kernel_rfl) (fun _ _ _ h => h) (Or.inl ⟨by rfl, ?_⟩) ?_ ?_
  rotate_left
  · intro w'
    go_simp
    with_reducible rfl
  rotate_left
  · simp only [Act.put, List.setIfInBounds_toArray, List.set_cons_zero, List.set_cons_succ, i64_w, i32_w]
    rfl
  refine pure_ (i := 3) (N := some 6) (v := ?_) (a' := ?_) #[true, true, true, true, false, false, false, false, false, false, false, false, false, false, false, false, false, false, false, false, false] rfl rfl (by kernel_rfl) (fun _ _ _ h => h) (Or.inl ⟨by rfl, ?_⟩) ?_ ?_
  rotate_left
  · intro w'
    go_simp
    with_reducible rfl
  rotate_left
  · simp only [Act.put, List.setIfInBounds_toArray, List.set_cons_zero, List.set_cons_succ, i64_w, i32_w]
    rfl
  refine pure_ (i := 6) (N := some 9) (v := ?_) (a' := ?_) #[true, true, true, true, false, false, true, false, false, false, false, false, false, false, false, false, false, false, false, false, false] rfl rfl (by kernel_rfl) (fun _ _ _ h => h) (Or.inl ⟨by rfl, ?_⟩) ?_ ?_
  rotate_left
  · intro w'
    go_simp
    with_reducible rfl
  rotate_left
  · simp only [Act.put, List.setIfInBounds_toArray, List.set_cons_zero, List.set_cons_succ, i64_w, i32_w]
    rfl
  refine pure_ (i := 7) (N := some 10) (v := ?_) (a' := ?_) #[true, true, true, true, false, false, true, true, false, false, false, false, false, false, false, false, false, false, false, false, false] rfl rfl (by kernel_rfl) (fun _ _ _ h => h) (Or.inl ⟨by rfl, ?_⟩) ?_ ?_
  rotate_left
  · intro w'
    go_simp
    with_reducible rfl
  rotate_left
  · simp only [Act.put, List.setIfInBounds_toArray, List.set_cons_zero, List.set_cons_succ, i64_w, i32_w]
    rfl
  refine pure_ (i := 8) (N := some 11) (v := ?_) (a' := ?_) #[true, true, true, true, false, false, true, true, true, false, false, false, false, false, false, false, false, false, false, false, false] rfl rfl (by kernel_rfl) (fun _ _ _ h => h) (Or.inl ⟨by rfl, ?_⟩) ?_ ?_
  rotate_left
  · intro w'
    go_simp
    with_reducible rfl
  rotate_left
  · simp only [Act.put, List.setIfInBounds_toArray, List.set_cons_zero, List.set_cons_succ, i64_w, i32_w]
    rfl
  refine pure_ (i := 10) (N := some 13) (v := ?_) (a' := ?_) #[true, true, true, true, false, false, true, true, true, false, true, false, false, false, false, false, false, false, false, false, false] rfl rfl (by kernel_rfl) (fun _ _ _ h => h) (Or.inl ⟨by rfl, ?_⟩) ?_ ?_
  rotate_left
  · intro w'
    go_simp
    with_reducible rfl
  rotate_left
  · simp only [Act.put, List.setIfInBounds_toArray, List.set_cons_zero, List.set_cons_succ, i64_w, i32_w]
    rfl
  refine pure_ (i := 11) (N := some 14) (v := ?_) (a' := ?_) #[true, true, true, true, false, false, true, true, true, false, true, true, false, false, false, false, false, false, false, false, false] rfl rfl (by kernel_rfl) (fun _ _ _ h => h) (Or.inl ⟨by rfl, ?_⟩) ?_ ?_
  rotate_left
  · intro w'
    go_simp
    with_reducible rfl
  rotate_left
  · simp only [Act.put, List.setIfInBounds_toArray, List.set_cons_zero, List.set_cons_succ, i64_w, i32_w]
    rfl
  refine pure_ (i := 12) (N := some 15) (v := ?_) (a' := ?_) #[true, true, true, true, false, false, true, true, true, false, true, true, true, false, false, false, false, false, false, false, false] rfl rfl (by kernel_rfl) (fun _ _ _ h => h) (Or.inl ⟨by rfl, ?_⟩) ?_ ?_
  rotate_left
  · intro w'
    go_simp
    with_reducible rfl
  rotate_left
  · simp only [Act.put, List.setIfInBounds_toArray, List.set_cons_zero, List.set_cons_succ, i64_w, i32_w]
    rfl
  refine take_ (i := 4) (N := some 7) (v := ?_) (a' := ?_) #[true, true, true, true, true, false, true, true, true, false, true, true, true, false, false, false, false, false, false, false, false] rfl rfl (by kernel_rfl) (fun _ _ _ h => h) (Or.inl ⟨by rfl, ?_⟩) hHeld ?_ ?_
  rotate_left
  · rintro w' ⟨s0, s1⟩
    go_simp
    with_reducible rfl
  rotate_left
  · simp only [Act.put, List.setIfInBounds_toArray, List.set_cons_zero, List.set_cons_succ, i64_w, i32_w]
    rfl
  refine pure_ (i := 5) (N := some 8) (v := ?_) (a' := ?_) #[true, true, true, true, true, true, true, true, true, false, true, true, true, false, false, false, false, false, false, false, false] rfl rfl (by kernel_rfl) (fun _ _ _ h => h) (Or.inl ⟨by rfl, ?_⟩) ?_ ?_
  rotate_left
  · intro w'
    go_simp
    with_reducible rfl
  rotate_left
  · simp only [Act.put, List.setIfInBounds_toArray, List.set_cons_zero, List.set_cons_succ, i64_w, i32_w]
    rfl
  refine take_ (i := 9) (N := some 12) (v := ?_) (a' := ?_) #[true, true, true, true, true, true, true, true, true, true, true, true, true, false, false, false, false, false, false, false, false] rfl rfl (by kernel_rfl) (fun _ _ _ h => h) (Or.inl ⟨by rfl, ?_⟩) hHeld ?_ ?_
  rotate_left
  · rintro w' ⟨s0, s1⟩
    go_simp
    with_reducible rfl
  rotate_left
  · simp only [Act.put, List.setIfInBounds_toArray, List.set_cons_zero, List.set_cons_succ, i64_w, i32_w]
    rfl
  refine take_ (i := 13) (N := some 16) (v := ?_) (a' := ?_) #[true, true, true, true, true, true, true, true, true, true, true, true, true, true, false, false, false, false, false, false, false] rfl rfl (by kernel_rfl) (fun _ _ _ h => h) (Or.inl ⟨by rfl, ?_⟩) hHeld ?_ ?_
  rotate_left
  · rintro w' ⟨s0, s1⟩
    go_simp
    with_reducible rfl
  rotate_left
  · simp only [Act.put, List.setIfInBounds_toArray, List.set_cons_zero, List.set_cons_succ, i64_w, i32_w]
    rfl
  refine pure_ (i := 14) (N := some 17) (v := ?_) (a' := ?_) #[true, true, true, true, true, true, true, true, true, true, true, true, true, true, true, false, false, false, false, false, false] rfl rfl (by kernel_rfl) (fun _ _ _ h => h) (Or.inl ⟨by rfl, ?_⟩) ?_ ?_
  rotate_left
  · intro w'
    go_simp
    with_reducible rfl
  rotate_left
  · simp only [Act.put, List.setIfInBounds_toArray, List.set_cons_zero, List.set_cons_succ, i64_w, i32_w]
    rfl
  refine one_ (i := 15) (N := some 18) #[true, true, true, true, true, true, true, true, true, true, true, true, true, true, true, true, false, false, false, false, false] rfl rfl (by kernel_rfl) (by decide) (fun K hK => ?_)
  refine goes_ Tryd.func42 (by kernel_rfl) rfl #[.string (s.extract p s.size), .string ⟨#[9, 10, 13, 32]⟩] (by rfl) rfl rfl (by simp only [List.map_toArray, List.map_cons, List.map_nil]; rfl) ?_
  with_reducible refine ((htr.out _)).mono ?_
  rintro e w3 ⟨rfl, hb⟩
  refine ⟨_, rfl, ?_⟩
  have c0' := (hb.cell (p := ⟨B, 0, none⟩) hlt).trans c0
  have c1' := (hb.cell (p := ⟨B, 1, none⟩) hlt).trans c1
  have f1' := (hb.frozen (p := ⟨B, 1, none⟩) hlt).trans f1
  have hM3 := Aside0.mk (IsM.below (w := w.drew) hM.out hb)
  replace hb := Aside0.mk hb
  clear c0 c1 f1
  skip
  refine hK.out _ _ ⟨c0', c1'⟩ (fun hHeld => ?_)
  clear hK K
  refine norm_ (a' := ?_) ?_ ?_
  rotate_left
  · show Act.put _ (some 18) _ = _
    simp only [Act.put, List.setIfInBounds_toArray, List.set_cons_zero, List.set_cons_succ, i64_w, i32_w]
    rfl
  refine pure_ (i := 16) (N := some 19) (v := ?_) (a' := ?_) #[true, true, true, true, true, true, true, true, true, true, true, true, true, true, true, true, true, false, false, false, false] rfl rfl (by kernel_rfl) (fun _ _ _ h => h) (Or.inl ⟨by rfl, ?_⟩) ?_ ?_
  rotate_left
  · intro w'
    go_simp
    with_reducible rfl
  rotate_left
  · simp only [Act.put, List.setIfInBounds_toArray, List.set_cons_zero, List.set_cons_succ, i64_w, i32_w]
    rfl
  refine pure_ (i := 17) (N := some 20) (v := ?_) (a' := ?_) #[true, true, true, true, true, true, true, true, true, true, true, true, true, true, true, true, true, true, false, false, false] rfl rfl (by kernel_rfl) (fun _ _ _ h => h) (Or.inl ⟨by rfl, ?_⟩) ?_ ?_
  rotate_left
  · intro w'
    go_simp
    with_reducible rfl
  rotate_left
  · simp only [Act.put, List.setIfInBounds_toArray, List.set_cons_zero, List.set_cons_succ, i64_w, i32_w]
    rfl
  refine pure_ (i := 18) (N := some 21) (v := ?_) (a' := ?_) #[true, true, true, true, true, true, true, true, true, true, true, true, true, true, true, true, true, true, true, false, false] rfl rfl (by kernel_rfl) (fun _ _ _ h => h) (Or.inl ⟨by rfl, ?_⟩) ?_ ?_
  rotate_left
  · intro w'
    go_simp
    with_reducible rfl
  rotate_left
  · simp only [Act.put, List.setIfInBounds_toArray, List.set_cons_zero, List.set_cons_succ, i64_w, i32_w]
    rfl
  refine pure_ (i := 19) (N := some 22) (v := ?_) (a' := ?_) #[true, true, true, true, true, true, true, true, true, true, true, true, true, true, true, true, true, true, true, true, false] rfl rfl (by kernel_rfl) (fun _ _ _ h => h) (Or.inl ⟨by rfl, ?_⟩) ?_ ?_
  rotate_left
  · intro w'
    go_simp
    with_reducible rfl
  rotate_left
  · simp only [Act.put, List.setIfInBounds_toArray, List.set_cons_zero, List.set_cons_succ, i64_w, i32_w]
    rfl
  refine last_ (i := 20) (N := none) #[true, true, true, true, true, true, true, true, true, true, true, true, true, true, true, true, true, true, true, true, true] rfl rfl (by kernel_rfl) (by decide) (fun K hK => ?_)
  refine skip_ (w1 := ?_) (by rfl) rfl ?_ ?_
  rotate_left
  · go_simp
    rfl
  refine hK.out _ _ ?_
  clear hK K
  refine done_ (by kernel_rfl) ?_

  have hw : wrap64 ((s.size : Int) - ((s.size : Int) - (q : Int))) = (q : Int) := by rw [show (s.size : Int) - ((s.size : Int) - (q : Int)) = (q : Int) by omega]; exact IntWalk.wrap64_in _ ⟨by omega, by omega⟩
  rw [hw]
  have hM4 : IsM (w3.setCell ⟨B, 1, none⟩ (.int .i64 (q : Int))) B s q o d v d0 d1 := hM3.out.set 1 _ rfl
  have hG4 : w.grownBy (w3.setCell ⟨B, 1, none⟩ (.int .i64 (q : Int))) (some B) := grown_trans' (grown_below (w := w) (Below.trans (Below.drew (Below.refl _ _)) hb.out) _) (grown_set w3 B 1 _)
  obtain ⟨w4, hw4⟩ : ∃ w4, w3.setCell ⟨B, 1, none⟩ (.int .i64 (q : Int)) = w4 := ⟨_, rfl⟩
  rw [hw4] at hM4 hG4 ⊢
  obtain ⟨e0, e1, _, _, _, _, _⟩ := hM4.cells
  have HM := Aside0.mk hM4
  have HG := Aside0.mk hG4
  clear hw4 hM4 hG4 c0' c1' f1' hHeld hM3 hb hw htr
  by_cases hqe : q = s.size
  · have h1 : ((q : Int) == (s.size : Int)) = true := by simp; omega
    have h2 : r = [] := List.length_eq_zero_iff.1 (by omega)
    subst h2
    clear hqe
    go_wp2_with fail
    go_quiet (fail)
    go_wp2_with fail
    go_ret
    exact ⟨rfl, HM.out.grown (grown_drewN _ _ none) (by simp), grown_trans' HG.out (grown_drewN _ _ _)⟩
  · have h1 : ((q : Int) == (s.size : Int)) = false := by simp; omega
    have h2 : (q : Int) < (s.size : Int) := by omega
    have h3 : q < s.size := by omega
    go_wp2_with fail
    go_quiet (fail)
    go_wp2_with fail
    go_quiet (fail)
    go_wp2_with fail
    go_ret
    refine ⟨?_, (HM.out.grown (grown_drewN _ _ none) (by simp)).grown (grown_drewN _ _ none) (by simp), grown_trans' (grown_trans' HG.out (grown_drewN _ _ _)) (grown_drewN _ _ _)⟩
    rw [HD.out, Js.hd_drop s q h3]
    rfl
end Go.Proofs.YtainnkpoibgkcaaDoor
