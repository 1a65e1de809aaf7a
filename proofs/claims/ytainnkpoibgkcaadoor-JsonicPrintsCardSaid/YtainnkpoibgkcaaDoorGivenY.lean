/- The document's Quote, walked by hand. Conditions: a text of at most 1000000000 bytes. -/
import Derived.Test.YtainnkpoibgkcaaDoorGivenP
namespace Go.Proofs.YtainnkpoibgkcaaDoor
set_option linter.unusedVariables false
set_option linter.unusedSimpArgs false
open Go.RowKit Go.Proofs.YtainnkpoibgkcaaDoor.PAll Go.Proofs.YtainnkpoibgkcaaDoorW.PrintWords Go.Proofs.YtainnkpoibgkcaaDoorW.PrintLast

/-- What holds at the head of each round. -/
def DQ (w0 : World) (s : ByteArray) (t4 t5 : Value) (wr : World) : Prop :=
  ∃ (i : Nat) (x : ByteArray), t5 = .int .i64 i ∧ t4 = .string x ∧ i ≤ s.size ∧ (∀ c ∈ s.data.toList.take i, c < 128) ∧ x.data.toList = 34 :: Js.qall (s.data.toList.take i) ∧ x.size ≤ 6 * i + 1 ∧ Below w0.heap.size w0 wr
theorem app_list (a b : ByteArray) : (a ++ b).data.toList = a.data.toList ++ b.data.toList := by simp
theorem DQ.next {w0 w2 : World} {s x y : ByteArray} {c : UInt8} {i : Nat} (hi : i < s.size) (hT : s.data.toList.take (i + 1) = s.data.toList.take i ++ [c]) (hA : ∀ z ∈ s.data.toList.take (i + 1), z < 128) (hx : x.data.toList = 34 :: Js.qall (s.data.toList.take i)) (hxs : x.size ≤ 6 * i + 1) (hb : Below w0.heap.size w0 w2)
    (hy : y.data.toList = x.data.toList ++ Js.q1 c) : DQ w0 s (.string y) (.int .i64 ((i : Int) + 1)) w2 := by
  have h6 : (Js.q1 c).length ≤ 6 := by unfold Js.q1; (iterate 6 (split; simp)); simp
  refine ⟨i + 1, y, rfl, rfl, hi, hA, ?_, ?_, hb⟩
  · rw [hy, hx, hT, Js.qall_snoc]; rfl
  · rw [← size_len, hy, List.length_append, size_len]; omega
theorem hex_quo (c : UInt8) (W : World) : (Instr.slice 9 (.string ⟨#[48, 49, 50, 51, 52, 53, 54, 55, 56, 57, 97, 98, 99, 100, 101, 102]⟩) (some (.int .u8 (IntKind.u8.wrap ((c.toNat : Int) / 16)))) (some (.int .u8 (IntKind.u8.wrap (IntKind.u8.wrap ((c.toNat : Int) / 16) + 1)))) none).run Tryd.prog W = .ok (.string ⟨#[Js.hx (c.toNat / 16)]⟩) W := by
  have hc : c.toNat < 256 := c.toNat_lt
  have h2 := wrap_u8 ⟨c.toNat / 16, by omega⟩
  simp only at h2
  rw [show (c.toNat : Int) / 16 = ((c.toNat / 16 : Nat) : Int) by omega, h2, ← show (c.toNat : Int) / 16 = ((c.toNat / 16 : Nat) : Int) by omega]
  exact hex_hi c W
theorem hex_rem (c : UInt8) (W : World) : (Instr.slice 9 (.string ⟨#[48, 49, 50, 51, 52, 53, 54, 55, 56, 57, 97, 98, 99, 100, 101, 102]⟩) (some (.int .u8 ((c.toNat : Int).tmod 16))) (some (.int .u8 (IntKind.u8.wrap ((c.toNat : Int).tmod 16 + 1)))) none).run Tryd.prog W = .ok (.string ⟨#[Js.hx (c.toNat % 16)]⟩) W := by
  have hc : c.toNat < 256 := c.toNat_lt
  have h := hex_one (c.toNat % 16) (by omega) W
  have h2 := wrap_u8 ⟨c.toNat % 16 + 1, by omega⟩
  rw [Int.tmod_eq_emod_of_nonneg (by omega), show (c.toNat : Int) % 16 = ((c.toNat % 16 : Nat) : Int) by omega, show ((c.toNat % 16 : Nat) : Int) + 1 = ((c.toNat % 16 + 1 : Nat) : Int) by omega, h2]
  exact h
set_option maxRecDepth 100000 in
set_option maxHeartbeats 4000000 in
theorem refQuote_walk (s : ByteArray) (w : World) (hs : s.size ≤ 1000000000) : Calls Tryd.prog 14 #[.string s] w fun e w' => QPost s w e w' := by
  have kb : ∀ (W : World) (b cap : Nat) (c : UInt8), W.cell? ⟨b, 0, none⟩ = some (.int .u8 (c.toNat : Int)) → (convert 48 9 (.slice (some ⟨b, 0, none⟩) 1 cap)).run Tryd.prog W = .ok (.string ⟨#[c]⟩) W := fun W b cap c h =>
    run_convert_bytes_back W 48 9 5 ⟨b, 0, none⟩ cap [c] Tryd.underlying48 Tryd.underlying5 Tryd.underlying9 (fun j hj => by
      have : j = 0 := by simpa using hj
      subst this; simpa [Addr.add] using h)
  go_enter Tryd.func14, Tryd.ntmps14
  go_wp2_with fail
  go_loopw [4, 5] (fun t4 t5 wr => DQ w s t4 t5 wr) (fun _ t5 _ => mQ s t5)
  case atStart =>
    exact ⟨0, ⟨#[34]⟩, rfl, rfl, Nat.zero_le _, fun c hc => by simp at hc, rfl, by decide, Below.refl _ _⟩
  case round =>
    obtain ⟨i, x, rfl, rfl, hi, hall, hx, hxs, hb⟩ := hrel
    have HA := Aside0.mk hall
    have HX := Aside0.mk hx
    have HB := Aside0.mk hb
    clear hall hx hb
    by_cases hlt : i < s.size
    · obtain ⟨c, hc⟩ : ∃ c, s[i] = c := ⟨_, rfl⟩
      have htk : s.data.toList.take (i + 1) = s.data.toList.take i ++ [c] := by
        rw [List.take_succ_eq_append_getElem (by rw [size_len]; exact hlt), ← hc]; rfl
      have HT := Aside0.mk htk
      clear htk
      have hlt' : (i : Int) < (s.size : Int) := by omega
      have hxm : x.size + 10 ≤ 9223372036854775807 := by omega
      by_cases h128 : 128 ≤ c.toNat
      · have h1 : ((127 : Int) < (c.toNat : Int)) = True := eq_true (by omega)
        go_wp2_with fail
        go_ret2
        refine ⟨HB.out, ?_⟩
        have hq : Js.quote s.data.toList = none := by
          unfold Js.quote
          rw [if_neg]
          intro h
          have := (List.all_eq_true.1 h) c (by rw [← hc]; exact List.getElem_mem (l := s.data.toList) _)
          have h2 : c < 128 := by simpa using this
          rw [UInt8.lt_iff_toNat_lt] at h2
          have : (128 : UInt8).toNat = 128 := rfl
          omega
        rw [hq]; rfl
      · have hc128 : c < 128 := by
          rw [UInt8.lt_iff_toNat_lt]; exact Nat.lt_of_not_le h128
        have HA' : Aside0 (∀ x ∈ s.data.toList.take (i + 1), x < 128) := ⟨fun x hx => by
          rw [HT.out] at hx
          rcases List.mem_append.1 hx with hx | hx
          · exact HA.out x hx
          · rw [List.mem_singleton.1 hx]; exact hc128⟩
        by_cases h34 : c = 34
        · subst h34
          clear h128
          have kb1 : (convert 48 9 (.slice (some ⟨wr.heap.size, 0, none⟩) 1 1)).run Tryd.prog (wr.alloc (.cells #[.int .u8 34] 5)) = .ok (.string ⟨#[34]⟩) (wr.alloc (.cells #[.int .u8 34] 5)) := kb _ _ _ 34 (by simp)
          go_wp2_with fail
          exact ⟨DQ.next (c := 34) hlt HT.out HA'.out HX.out hxs (HB.out.alloc HB.out.size _) (by simp only [app_list]; simp [Js.q1]), mQ_next hlt⟩
        by_cases h92 : c = 92
        · subst h92
          clear h128
          have kb1 : (convert 48 9 (.slice (some ⟨wr.heap.size, 0, none⟩) 1 1)).run Tryd.prog (wr.alloc (.cells #[.int .u8 92] 5)) = .ok (.string ⟨#[92]⟩) (wr.alloc (.cells #[.int .u8 92] 5)) := kb _ _ _ 92 (by simp)
          go_wp2_with fail
          exact ⟨DQ.next (c := 92) hlt HT.out HA'.out HX.out hxs (HB.out.alloc HB.out.size _) (by simp only [app_list]; simp [Js.q1]), mQ_next hlt⟩
        by_cases h10 : c = 10
        · subst h10
          clear h128
          skip
          go_wp2_with fail
          exact ⟨DQ.next (c := 10) hlt HT.out HA'.out HX.out hxs HB.out (by simp only [app_list]; simp [Js.q1]), mQ_next hlt⟩
        by_cases h13 : c = 13
        · subst h13
          clear h128
          skip
          go_wp2_with fail
          exact ⟨DQ.next (c := 13) hlt HT.out HA'.out HX.out hxs HB.out (by simp only [app_list]; simp [Js.q1]), mQ_next hlt⟩
        by_cases h9 : c = 9
        · subst h9
          clear h128
          skip
          go_wp2_with fail
          exact ⟨DQ.next (c := 9) hlt HT.out HA'.out HX.out hxs HB.out (by simp only [app_list]; simp [Js.q1]), mQ_next hlt⟩
        have g127 : ((127 : Int) < (c.toNat : Int)) = False := eq_false (by omega)
        have n34 : ((c.toNat : Int) == 34) = false := by have : c.toNat ≠ 34 := fun e => h34 (UInt8.toNat_inj.1 e); simp; omega
        have n92 : ((c.toNat : Int) == 92) = false := by have : c.toNat ≠ 92 := fun e => h92 (UInt8.toNat_inj.1 e); simp; omega
        have n10 : ((c.toNat : Int) == 10) = false := by have : c.toNat ≠ 10 := fun e => h10 (UInt8.toNat_inj.1 e); simp; omega
        have n13 : ((c.toNat : Int) == 13) = false := by have : c.toNat ≠ 13 := fun e => h13 (UInt8.toNat_inj.1 e); simp; omega
        have n9 : ((c.toNat : Int) == 9) = false := by have : c.toNat ≠ 9 := fun e => h9 (UInt8.toNat_inj.1 e); simp; omega
        by_cases hctl : c.toNat < 32 ∨ c.toNat = 127
        · have hq1 : Js.q1 c = [92, 117, 48, 48, Js.hx (c.toNat / 16), Js.hx (c.toNat % 16)] := by
            unfold Js.q1
            rw [if_neg h34, if_neg h92, if_neg h10, if_neg h13, if_neg h9, if_pos]
            rcases hctl with h | h
            · exact .inl (by rw [UInt8.lt_iff_toNat_lt]; exact h)
            · exact .inr (UInt8.toNat_inj.1 h)
          replace hq1 := Aside0.mk hq1
          have hs1 := hex_quo c
          have hs2 := hex_rem c
          have z1 : (9223372036854775807 < x.size + 4) = False := eq_false (by omega)
          have z2 : (9223372036854775807 < x.size + 4 + 1) = False := eq_false (by omega)
          have z3 : (9223372036854775807 < x.size + 4 + 1 + 1) = False := eq_false (by omega)
          have z2' : (9223372036854775807 < x.size + 5) = False := eq_false (by omega)
          have z3' : (9223372036854775807 < x.size + 6) = False := eq_false (by omega)
          rcases hctl with hctl | hctl
          · have g32 : ((c.toNat : Int) < 32) = True := eq_true (by omega)
            clear h34 h92 h10 h13 h9
            replace hctl := Aside0.mk hctl
            go_wp2_with fail
            clear hctl
            refine start_ (n := 17) (S := fun w' => True) (ds := []) #[false, false, false, false, false, false, false, false, false, false, false, false, false, false, false, false, false] (by kernel_rfl) rfl rfl trivial (fun hHeld => ?_)
            refine pure_ (i := 0) (N := some 59) (v := ?_) (a' := ?_) #[true, false, false, false, false, false, false, false, false, false, false, false, false, false, false, false, false] rfl rfl (by kernel_rfl) (fun _ _ _ h => h) (Or.inl ⟨by rfl, ?_⟩) ?_ ?_
            rotate_left
            · intro w'
              go_simp
              with_reducible rfl
            rotate_left
            · simp only [Act.put, List.setIfInBounds_toArray, List.set_cons_zero, List.set_cons_succ, i64_w, i32_w]
              rfl
            refine pure_ (i := 1) (N := some 60) (v := ?_) (a' := ?_) #[true, true, false, false, false, false, false, false, false, false, false, false, false, false, false, false, false] rfl rfl (by kernel_rfl) (fun _ _ _ h => h) (Or.inl ⟨by rfl, ?_⟩) ?_ ?_
            rotate_left
            · intro w'
              go_simp
              with_reducible rfl
            rotate_left
            · simp only [Act.put, List.setIfInBounds_toArray, List.set_cons_zero, List.set_cons_succ, i64_w, i32_w]
              rfl
            refine pure_ (i := 2) (N := some 61) (v := ?_) (a' := ?_) #[true, true, true, false, false, false, false, false, false, false, false, false, false, false, false, false, false] rfl rfl (by kernel_rfl) (fun _ _ _ h => h) (Or.inl ⟨by rfl, ?_⟩) ?_ ?_
            rotate_left
            · intro w'
              go_simp
              with_reducible rfl
            rotate_left
            · simp only [Act.put, List.setIfInBounds_toArray, List.set_cons_zero, List.set_cons_succ, i64_w, i32_w]
              rfl
            refine pure_ (i := 3) (N := some 62) (v := ?_) (a' := ?_) #[true, true, true, true, false, false, false, false, false, false, false, false, false, false, false, false, false] rfl rfl (by kernel_rfl) (fun _ _ _ h => h) (Or.inl ⟨by rfl, ?_⟩) ?_ ?_
            rotate_left
            · intro w'
              go_simp
              with_reducible rfl
            rotate_left
            · simp only [Act.put, List.setIfInBounds_toArray, List.set_cons_zero, List.set_cons_succ, i64_w, i32_w]
              rfl
            refine pure_ (i := 4) (N := some 63) (v := ?_) (a' := ?_) #[true, true, true, true, true, false, false, false, false, false, false, false, false, false, false, false, false] rfl rfl (by kernel_rfl) (fun _ _ _ h => h) (Or.inl ⟨by rfl, ?_⟩) ?_ ?_
            rotate_left
            · intro w'
              go_simp
              with_reducible rfl
            rotate_left
            · simp only [Act.put, List.setIfInBounds_toArray, List.set_cons_zero, List.set_cons_succ, i64_w, i32_w]
              rfl
            refine pure_ (i := 5) (N := some 64) (v := ?_) (a' := ?_) #[true, true, true, true, true, true, false, false, false, false, false, false, false, false, false, false, false] rfl rfl (by kernel_rfl) (fun _ _ _ h => h) (Or.inl ⟨by rfl, ?_⟩) ?_ ?_
            rotate_left
            · intro w'
              go_simp
              with_reducible rfl
            rotate_left
            · simp only [Act.put, List.setIfInBounds_toArray, List.set_cons_zero, List.set_cons_succ, i64_w, i32_w]
              rfl
            refine pure_ (i := 6) (N := some 65) (v := ?_) (a' := ?_) #[true, true, true, true, true, true, true, false, false, false, false, false, false, false, false, false, false] rfl rfl (by kernel_rfl) (fun _ _ _ h => h) (Or.inl ⟨by rfl, ?_⟩) ?_ ?_
            rotate_left
            · intro w'
              go_simp
              with_reducible rfl
            rotate_left
            · simp only [Act.put, List.setIfInBounds_toArray, List.set_cons_zero, List.set_cons_succ, i64_w, i32_w]
              rfl
            refine pure_ (i := 7) (N := some 66) (v := ?_) (a' := ?_) #[true, true, true, true, true, true, true, true, false, false, false, false, false, false, false, false, false] rfl rfl (by kernel_rfl) (fun _ _ _ h => h) (Or.inl ⟨by rfl, ?_⟩) ?_ ?_
            rotate_left
            · intro w'
              go_simp
              with_reducible rfl
            rotate_left
            · simp only [Act.put, List.setIfInBounds_toArray, List.set_cons_zero, List.set_cons_succ, i64_w, i32_w]
              rfl
            refine pure_ (i := 8) (N := some 67) (v := ?_) (a' := ?_) #[true, true, true, true, true, true, true, true, true, false, false, false, false, false, false, false, false] rfl rfl (by kernel_rfl) (fun _ _ _ h => h) (Or.inl ⟨by rfl, ?_⟩) ?_ ?_
            rotate_left
            · intro w'
              go_simp
              with_reducible rfl
            rotate_left
            · simp only [Act.put, List.setIfInBounds_toArray, List.set_cons_zero, List.set_cons_succ, i64_w, i32_w]
              rfl
            refine pure_ (i := 9) (N := some 68) (v := ?_) (a' := ?_) #[true, true, true, true, true, true, true, true, true, true, false, false, false, false, false, false, false] rfl rfl (by kernel_rfl) (fun _ _ _ h => h) (Or.inl ⟨by rfl, ?_⟩) ?_ ?_
            rotate_left
            · intro w'
              go_simp
              with_reducible rfl
            rotate_left
            · simp only [Act.put, List.setIfInBounds_toArray, List.set_cons_zero, List.set_cons_succ, i64_w, i32_w]
              rfl
            refine pure_ (i := 10) (N := some 69) (v := ?_) (a' := ?_) #[true, true, true, true, true, true, true, true, true, true, true, false, false, false, false, false, false] rfl rfl (by kernel_rfl) (fun _ _ _ h => h) (Or.inl ⟨by rfl, ?_⟩) ?_ ?_
            rotate_left
            · intro w'
              go_simp
              with_reducible rfl
            rotate_left
            · simp only [Act.put, List.setIfInBounds_toArray, List.set_cons_zero, List.set_cons_succ, i64_w, i32_w]
              rfl
            refine pure_ (i := 11) (N := some 70) (v := ?_) (a' := ?_) #[true, true, true, true, true, true, true, true, true, true, true, true, false, false, false, false, false] rfl rfl (by kernel_rfl) (fun _ _ _ h => h) (Or.inl ⟨by rfl, ?_⟩) ?_ ?_
            rotate_left
            · intro w'
              go_simp
              with_reducible rfl
            rotate_left
            · simp only [Act.put, List.setIfInBounds_toArray, List.set_cons_zero, List.set_cons_succ, i64_w, i32_w]
              rfl
            refine pure_ (i := 12) (N := some 71) (v := ?_) (a' := ?_) #[true, true, true, true, true, true, true, true, true, true, true, true, true, false, false, false, false] rfl rfl (by kernel_rfl) (fun _ _ _ h => h) (Or.inl ⟨by rfl, ?_⟩) ?_ ?_
            rotate_left
            · intro w'
              go_simp
              with_reducible rfl
            rotate_left
            · simp only [Act.put, List.setIfInBounds_toArray, List.set_cons_zero, List.set_cons_succ, i64_w, i32_w]
              rfl
            refine pure_ (i := 13) (N := some 72) (v := ?_) (a' := ?_) #[true, true, true, true, true, true, true, true, true, true, true, true, true, true, false, false, false] rfl rfl (by kernel_rfl) (fun _ _ _ h => h) (Or.inl ⟨by rfl, ?_⟩) ?_ ?_
            rotate_left
            · intro w'
              go_simp
              with_reducible rfl
            rotate_left
            · simp only [Act.put, List.setIfInBounds_toArray, List.set_cons_zero, List.set_cons_succ, i64_w, i32_w]
              rfl
            refine pure_ (i := 14) (N := some 73) (v := ?_) (a' := ?_) #[true, true, true, true, true, true, true, true, true, true, true, true, true, true, true, false, false] rfl rfl (by kernel_rfl) (fun _ _ _ h => h) (Or.inl ⟨by rfl, ?_⟩) ?_ ?_
            rotate_left
            · intro w'
              go_simp
              with_reducible rfl
            rotate_left
            · simp only [Act.put, List.setIfInBounds_toArray, List.set_cons_zero, List.set_cons_succ, i64_w, i32_w]
              rfl
            refine pure_ (i := 15) (N := some 74) (v := ?_) (a' := ?_) #[true, true, true, true, true, true, true, true, true, true, true, true, true, true, true, true, false] rfl rfl (by kernel_rfl) (fun _ _ _ h => h) (Or.inl ⟨by rfl, ?_⟩) ?_ ?_
            rotate_left
            · intro w'
              go_simp
              with_reducible rfl
            rotate_left
            · simp only [Act.put, List.setIfInBounds_toArray, List.set_cons_zero, List.set_cons_succ, i64_w, i32_w]
              rfl
            refine pure_ (i := 16) (N := some 4) (v := ?_) (a' := ?_) #[true, true, true, true, true, true, true, true, true, true, true, true, true, true, true, true, true] rfl rfl (by kernel_rfl) (fun _ _ _ h => h) (Or.inl ⟨by rfl, ?_⟩) ?_ ?_
            rotate_left
            · intro w'
              go_simp
              with_reducible rfl
            rotate_left
            · simp only [Act.put, List.setIfInBounds_toArray, List.set_cons_zero, List.set_cons_succ, i64_w, i32_w]
              rfl
            refine done_ (by kernel_rfl) ?_

            go_wp2_with fail
            exact ⟨DQ.next hlt HT.out HA'.out HX.out hxs (Below.drew HB.out) (by rw [hq1.out]; simp only [app_list]; simp), mQ_next hlt⟩
          · have g32 : ((c.toNat : Int) < 32) = False := eq_false (by omega)
            have m127 : ((c.toNat : Int) == 127) = true := by simp; omega
            clear h34 h92 h10 h13 h9
            replace hctl := Aside0.mk hctl
            go_wp2_with fail
            clear hctl
            refine start_ (n := 17) (S := fun w' => True) (ds := []) #[false, false, false, false, false, false, false, false, false, false, false, false, false, false, false, false, false] (by kernel_rfl) rfl rfl trivial (fun hHeld => ?_)
            refine pure_ (i := 0) (N := some 59) (v := ?_) (a' := ?_) #[true, false, false, false, false, false, false, false, false, false, false, false, false, false, false, false, false] rfl rfl (by kernel_rfl) (fun _ _ _ h => h) (Or.inl ⟨by rfl, ?_⟩) ?_ ?_
            rotate_left
            · intro w'
              go_simp
              with_reducible rfl
            rotate_left
            · simp only [Act.put, List.setIfInBounds_toArray, List.set_cons_zero, List.set_cons_succ, i64_w, i32_w]
              rfl
            refine pure_ (i := 1) (N := some 60) (v := ?_) (a' := ?_) #[true, true, false, false, false, false, false, false, false, false, false, false, false, false, false, false, false] rfl rfl (by kernel_rfl) (fun _ _ _ h => h) (Or.inl ⟨by rfl, ?_⟩) ?_ ?_
            rotate_left
            · intro w'
              go_simp
              with_reducible rfl
            rotate_left
            · simp only [Act.put, List.setIfInBounds_toArray, List.set_cons_zero, List.set_cons_succ, i64_w, i32_w]
              rfl
            refine pure_ (i := 2) (N := some 61) (v := ?_) (a' := ?_) #[true, true, true, false, false, false, false, false, false, false, false, false, false, false, false, false, false] rfl rfl (by kernel_rfl) (fun _ _ _ h => h) (Or.inl ⟨by rfl, ?_⟩) ?_ ?_
            rotate_left
            · intro w'
              go_simp
              with_reducible rfl
            rotate_left
            · simp only [Act.put, List.setIfInBounds_toArray, List.set_cons_zero, List.set_cons_succ, i64_w, i32_w]
              rfl
            refine pure_ (i := 3) (N := some 62) (v := ?_) (a' := ?_) #[true, true, true, true, false, false, false, false, false, false, false, false, false, false, false, false, false] rfl rfl (by kernel_rfl) (fun _ _ _ h => h) (Or.inl ⟨by rfl, ?_⟩) ?_ ?_
            rotate_left
            · intro w'
              go_simp
              with_reducible rfl
            rotate_left
            · simp only [Act.put, List.setIfInBounds_toArray, List.set_cons_zero, List.set_cons_succ, i64_w, i32_w]
              rfl
            refine pure_ (i := 4) (N := some 63) (v := ?_) (a' := ?_) #[true, true, true, true, true, false, false, false, false, false, false, false, false, false, false, false, false] rfl rfl (by kernel_rfl) (fun _ _ _ h => h) (Or.inl ⟨by rfl, ?_⟩) ?_ ?_
            rotate_left
            · intro w'
              go_simp
              with_reducible rfl
            rotate_left
            · simp only [Act.put, List.setIfInBounds_toArray, List.set_cons_zero, List.set_cons_succ, i64_w, i32_w]
              rfl
            refine pure_ (i := 5) (N := some 64) (v := ?_) (a' := ?_) #[true, true, true, true, true, true, false, false, false, false, false, false, false, false, false, false, false] rfl rfl (by kernel_rfl) (fun _ _ _ h => h) (Or.inl ⟨by rfl, ?_⟩) ?_ ?_
            rotate_left
            · intro w'
              go_simp
              with_reducible rfl
            rotate_left
            · simp only [Act.put, List.setIfInBounds_toArray, List.set_cons_zero, List.set_cons_succ, i64_w, i32_w]
              rfl
            refine pure_ (i := 6) (N := some 65) (v := ?_) (a' := ?_) #[true, true, true, true, true, true, true, false, false, false, false, false, false, false, false, false, false] rfl rfl (by kernel_rfl) (fun _ _ _ h => h) (Or.inl ⟨by rfl, ?_⟩) ?_ ?_
            rotate_left
            · intro w'
              go_simp
              with_reducible rfl
            rotate_left
            · simp only [Act.put, List.setIfInBounds_toArray, List.set_cons_zero, List.set_cons_succ, i64_w, i32_w]
              rfl
            refine pure_ (i := 7) (N := some 66) (v := ?_) (a' := ?_) #[true, true, true, true, true, true, true, true, false, false, false, false, false, false, false, false, false] rfl rfl (by kernel_rfl) (fun _ _ _ h => h) (Or.inl ⟨by rfl, ?_⟩) ?_ ?_
            rotate_left
            · intro w'
              go_simp
              with_reducible rfl
            rotate_left
            · simp only [Act.put, List.setIfInBounds_toArray, List.set_cons_zero, List.set_cons_succ, i64_w, i32_w]
              rfl
            refine pure_ (i := 8) (N := some 67) (v := ?_) (a' := ?_) #[true, true, true, true, true, true, true, true, true, false, false, false, false, false, false, false, false] rfl rfl (by kernel_rfl) (fun _ _ _ h => h) (Or.inl ⟨by rfl, ?_⟩) ?_ ?_
            rotate_left
            · intro w'
              go_simp
              with_reducible rfl
            rotate_left
            · simp only [Act.put, List.setIfInBounds_toArray, List.set_cons_zero, List.set_cons_succ, i64_w, i32_w]
              rfl
            refine pure_ (i := 9) (N := some 68) (v := ?_) (a' := ?_) #[true, true, true, true, true, true, true, true, true, true, false, false, false, false, false, false, false] rfl rfl (by kernel_rfl) (fun _ _ _ h => h) (Or.inl ⟨by rfl, ?_⟩) ?_ ?_
            rotate_left
            · intro w'
              go_simp
              with_reducible rfl
            rotate_left
            · simp only [Act.put, List.setIfInBounds_toArray, List.set_cons_zero, List.set_cons_succ, i64_w, i32_w]
              rfl
            refine pure_ (i := 10) (N := some 69) (v := ?_) (a' := ?_) #[true, true, true, true, true, true, true, true, true, true, true, false, false, false, false, false, false] rfl rfl (by kernel_rfl) (fun _ _ _ h => h) (Or.inl ⟨by rfl, ?_⟩) ?_ ?_
            rotate_left
            · intro w'
              go_simp
              with_reducible rfl
            rotate_left
            · simp only [Act.put, List.setIfInBounds_toArray, List.set_cons_zero, List.set_cons_succ, i64_w, i32_w]
              rfl
            refine pure_ (i := 11) (N := some 70) (v := ?_) (a' := ?_) #[true, true, true, true, true, true, true, true, true, true, true, true, false, false, false, false, false] rfl rfl (by kernel_rfl) (fun _ _ _ h => h) (Or.inl ⟨by rfl, ?_⟩) ?_ ?_
            rotate_left
            · intro w'
              go_simp
              with_reducible rfl
            rotate_left
            · simp only [Act.put, List.setIfInBounds_toArray, List.set_cons_zero, List.set_cons_succ, i64_w, i32_w]
              rfl
            refine pure_ (i := 12) (N := some 71) (v := ?_) (a' := ?_) #[true, true, true, true, true, true, true, true, true, true, true, true, true, false, false, false, false] rfl rfl (by kernel_rfl) (fun _ _ _ h => h) (Or.inl ⟨by rfl, ?_⟩) ?_ ?_
            rotate_left
            · intro w'
              go_simp
              with_reducible rfl
            rotate_left
            · simp only [Act.put, List.setIfInBounds_toArray, List.set_cons_zero, List.set_cons_succ, i64_w, i32_w]
              rfl
            refine pure_ (i := 13) (N := some 72) (v := ?_) (a' := ?_) #[true, true, true, true, true, true, true, true, true, true, true, true, true, true, false, false, false] rfl rfl (by kernel_rfl) (fun _ _ _ h => h) (Or.inl ⟨by rfl, ?_⟩) ?_ ?_
            rotate_left
            · intro w'
              go_simp
              with_reducible rfl
            rotate_left
            · simp only [Act.put, List.setIfInBounds_toArray, List.set_cons_zero, List.set_cons_succ, i64_w, i32_w]
              rfl
            refine pure_ (i := 14) (N := some 73) (v := ?_) (a' := ?_) #[true, true, true, true, true, true, true, true, true, true, true, true, true, true, true, false, false] rfl rfl (by kernel_rfl) (fun _ _ _ h => h) (Or.inl ⟨by rfl, ?_⟩) ?_ ?_
            rotate_left
            · intro w'
              go_simp
              with_reducible rfl
            rotate_left
            · simp only [Act.put, List.setIfInBounds_toArray, List.set_cons_zero, List.set_cons_succ, i64_w, i32_w]
              rfl
            refine pure_ (i := 15) (N := some 74) (v := ?_) (a' := ?_) #[true, true, true, true, true, true, true, true, true, true, true, true, true, true, true, true, false] rfl rfl (by kernel_rfl) (fun _ _ _ h => h) (Or.inl ⟨by rfl, ?_⟩) ?_ ?_
            rotate_left
            · intro w'
              go_simp
              with_reducible rfl
            rotate_left
            · simp only [Act.put, List.setIfInBounds_toArray, List.set_cons_zero, List.set_cons_succ, i64_w, i32_w]
              rfl
            refine pure_ (i := 16) (N := some 4) (v := ?_) (a' := ?_) #[true, true, true, true, true, true, true, true, true, true, true, true, true, true, true, true, true] rfl rfl (by kernel_rfl) (fun _ _ _ h => h) (Or.inl ⟨by rfl, ?_⟩) ?_ ?_
            rotate_left
            · intro w'
              go_simp
              with_reducible rfl
            rotate_left
            · simp only [Act.put, List.setIfInBounds_toArray, List.set_cons_zero, List.set_cons_succ, i64_w, i32_w]
              rfl
            refine done_ (by kernel_rfl) ?_

            go_wp2_with fail
            exact ⟨DQ.next hlt HT.out HA'.out HX.out hxs (Below.drew HB.out) (by rw [hq1.out]; simp only [app_list]; simp), mQ_next hlt⟩
        · have hq1 : Js.q1 c = [c] := by
            unfold Js.q1
            rw [if_neg h34, if_neg h92, if_neg h10, if_neg h13, if_neg h9, if_neg]
            rintro (h | h)
            · rw [UInt8.lt_iff_toNat_lt] at h; exact hctl (.inl h)
            · exact hctl (.inr (by rw [h]; rfl))
          replace hq1 := Aside0.mk hq1
          have g32 : ((c.toNat : Int) < 32) = False := eq_false (by omega)
          have m127 : ((c.toNat : Int) == 127) = false := by simp; omega
          have kb1 : (convert 48 9 (.slice (some ⟨wr.heap.size, 0, none⟩) 1 1)).run Tryd.prog (wr.alloc (.cells #[.int .u8 (c.toNat : Int)] 5)) = .ok (.string ⟨#[c]⟩) (wr.alloc (.cells #[.int .u8 (c.toNat : Int)] 5)) := kb _ _ _ c (by simp)
          clear h34 h92 h10 h13 h9 hctl
          go_wp2_with fail
          exact ⟨DQ.next hlt HT.out HA'.out HX.out hxs (HB.out.alloc HB.out.size _) (by rw [hq1.out, app_list]), mQ_next hlt⟩
    · have hge : ((i : Int) < (s.size : Int)) = False := eq_false (by omega)
      go_wp2_with fail
      go_ret2
      refine ⟨HB.out, ?_⟩
      have hie : i = s.size := by omega
      have htk : s.data.toList.take i = s.data.toList := by rw [hie]; exact List.take_length
      have hall := HA.out
      have hx := HX.out
      rw [htk] at hall hx
      have hq : Js.quote s.data.toList = some (34 :: (Js.qall s.data.toList ++ [34])) := by
        unfold Js.quote
        rw [if_pos (List.all_eq_true.2 fun c hc => by simpa using hall c hc)]
      rw [hq]
      have hxx : x ++ (⟨#[34]⟩ : ByteArray) = S (34 :: (Js.qall s.data.toList ++ [34])) := by
        rw [← S_of (x ++ (⟨#[34]⟩ : ByteArray)), app_list, hx]; rfl
      simp only
      rw [← hxx]
      rfl
def entrepotref19_Quote.f (a0 : ByteArray) : Option (ByteArray × Bool) := if a0.size ≤ 1000000000 then some (quoteR (Js.quote a0.data.toList)) else none
theorem entrepotref19_Quote.calls (a0 : ByteArray) (r : ByteArray) (r1 : Bool) (w : World) (h : entrepotref19_Quote.f a0 = some (r, r1)) :
    Calls Tryd.prog 14 #[.string a0] w fun e w' => e = .returned (.tuple #[.string r, .bool r1]) ∧ Below w.heap.size w w' := by
  unfold entrepotref19_Quote.f at h
  split at h
  · rename_i hs
    have h := Option.some.inj h
    refine (refQuote_walk a0 w hs).mono ?_
    rintro e w' ⟨hb, hh⟩
    refine ⟨?_, hb⟩
    cases hq : Js.quote a0.data.toList with
    | some q => rw [hq] at hh h; simp only [quoteR, Prod.mk.injEq] at h; obtain ⟨rfl, rfl⟩ := h; exact hh
    | none => rw [hq] at hh h; simp only [quoteR, Prod.mk.injEq] at h; obtain ⟨rfl, rfl⟩ := h; exact hh
  · exact absurd h (by simp)
end Go.Proofs.YtainnkpoibgkcaaDoor
