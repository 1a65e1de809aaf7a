/- The pure statements of PackNumbers, PackTexts, PackShort and PackBack: the printed laws answer true. Conditions: none. -/
import Derived.Test.YtbcahalbjegjgaaDoorEvt
namespace Go.Proofs.YtbcahalbjegjgaaDoor.Evs
open Go.RowKit Go.Proofs.YtbcahalbjegjgaaDoor.PAll Go.Proofs.YtbcahalbjegjgaaDoorW.PrintWords Go.Proofs.YtbcahalbjegjgaaDoorW.PrintLast

theorem wf_i64 {n : Int} (h : (Lit.int .i64 n).wf = true) : -9223372036854775808 ≤ n ∧ n ≤ 9223372036854775807 := by
  simpa [Lit.wf, IntKind.min, IntKind.max, IntKind.signed, IntKind.bits] using h
theorem wf_u16 {n : Int} (h : (Lit.int .u16 n).wf = true) : 0 ≤ n ∧ n ≤ 65535 := by
  simpa [Lit.wf, IntKind.min, IntKind.max, IntKind.signed, IntKind.bits] using h

theorem PackNumbers : entrepotlaw21_PackNumbers.Pure := by
  intro n s at_ hn hs _
  have hn := wf_i64 hn
  obtain ⟨K0, h0⟩ := shown
  by_cases hl : s.size > 200
  · refine ⟨K0 + 1, ?_⟩
    have e0 : entrepotlaw21_shown.f K0 = some true := h0 K0 (by omega)
    unfold entrepotlaw21_PackNumbers.f
    rw [if_pos (by omega)]
    simp only [entrepotlaw21_PackNumbers.j0]
    rw [if_pos trivial, e0]; rfl
  · obtain ⟨K1, h1⟩ := refGetUint s at_ hs
    obtain ⟨K2, h2⟩ := refGetInt s at_ hs
    obtain ⟨K3, h3⟩ := putUint n (by omega)
    obtain ⟨K4, h4⟩ := refPutUint n (by omega)
    obtain ⟨K5, h5⟩ := putInt n
    obtain ⟨K6, h6⟩ := refPutInt n
    obtain ⟨K, hK⟩ : ∃ K, K = K0 + K1 + K2 + K3 + K4 + K5 + K6 := ⟨_, rfl⟩
    refine ⟨K + 1, ?_⟩
    have e0 : entrepotlaw21_shown.f (K + 1) = some true := h0 _ (by omega)
    have e1 : entrepotref21_GetUint.f K s at_ = _ := h1 K (by omega)
    have e2 : entrepotref21_GetInt.f K s at_ = _ := h2 K (by omega)
    have e3 : pack_PutUint.f K n = _ := h3 K (by omega)
    have e4 : entrepotref21_PutUint.f K n = _ := h4 K (by omega)
    have e5 : pack_PutInt.f K n = _ := h5 K (by omega)
    have e6 : entrepotref21_PutInt.f K n = _ := h6 K (by omega)
    unfold entrepotlaw21_PackNumbers.f
    rw [if_neg (by omega), e0, Option.bind_some]
    simp only [entrepotlaw21_PackNumbers.j0]
    rw [if_neg (by simp), getUint s at_ hs, Option.bind_some, e1, Option.bind_some, getInt s at_ hs, Option.bind_some, e2, Option.bind_some, e3, Option.bind_some, e4, Option.bind_some, if_pos rfl, e5, Option.bind_some, e6, Option.bind_some, if_pos rfl, if_pos rfl, if_pos rfl, if_pos rfl, if_pos rfl, if_pos rfl]
    simp

theorem PackTexts : entrepotlaw21_PackTexts.Pure := by
  intro s at_ hs _
  obtain ⟨K0, h0⟩ := shown
  by_cases hl : s.size > 300
  · refine ⟨K0 + 1, ?_⟩
    have e0 : entrepotlaw21_shown.f K0 = some true := h0 K0 (by omega)
    unfold entrepotlaw21_PackTexts.f
    rw [if_pos (by omega)]
    simp only [entrepotlaw21_PackTexts.j0]
    rw [if_pos trivial, e0]; rfl
  · obtain ⟨K1, h1⟩ := refGetText s at_ hs
    obtain ⟨K2, h2⟩ := refOpened s hs
    obtain ⟨K3, h3⟩ := putText s hs
    obtain ⟨K4, h4⟩ := refPutText s hs
    obtain ⟨K5, h5⟩ := refSum s hs
    obtain ⟨K6, h6⟩ := refSealed s hs
    obtain ⟨K, hK⟩ : ∃ K, K = K0 + K1 + K2 + K3 + K4 + K5 + K6 := ⟨_, rfl⟩
    refine ⟨K + 1, ?_⟩
    have e0 : entrepotlaw21_shown.f (K + 1) = some true := h0 _ (by omega)
    have e1 : entrepotref21_GetText.f K s at_ = _ := h1 K (by omega)
    have e2 : entrepotref21_Open.f K s = _ := h2 K (by omega)
    have e3 : pack_PutText.f K s = _ := h3 K (by omega)
    have e4 : entrepotref21_PutText.f K s = _ := h4 K (by omega)
    have e5 : entrepotref21_Sum.f K s = _ := h5 K (by omega)
    have e6 : entrepotref21_Seal.f K s = _ := h6 K (by omega)
    unfold entrepotlaw21_PackTexts.f
    rw [if_neg (by omega), e0, Option.bind_some]
    simp only [entrepotlaw21_PackTexts.j0]
    rw [if_neg (by simp), getText s at_ hs, Option.bind_some, e1, Option.bind_some, opened s hs, Option.bind_some, e2, Option.bind_some, e3, Option.bind_some, e4, Option.bind_some, if_pos rfl, if_pos rfl, if_pos rfl, if_pos rfl, sum_ s hs, Option.bind_some, e5, Option.bind_some, if_pos rfl, sealed s hs, Option.bind_some, e6, Option.bind_some, if_pos rfl, if_pos rfl]
    simp

theorem putT_cut (t : List UInt8) (ht : t.length < 9223372036854775808) (m : Nat) (hm : m < (Pk.putT t).length) : Pk.getT ((Pk.putT t).take m) 0 = ([], 0, 211) := by
  unfold Pk.putT at hm ⊢
  rw [List.length_append] at hm
  by_cases h : m < (Pk.putU t.length).length
  · have e : (Pk.putU t.length ++ t).take m = (Pk.putU t.length).take m := List.take_append_of_le_length (by omega)
    unfold Pk.getT
    rw [e, Pk.getU_cut t.length m ht h]; rfl
  · have e : (Pk.putU t.length ++ t).take m = [] ++ Pk.putU t.length ++ t.take (m - (Pk.putU t.length).length) := by
      rw [List.take_append, List.take_of_length_le (by omega)]; rfl
    have g := Pk.getU_put t.length [] (t.take (m - (Pk.putU t.length).length)) ht
    have g : Pk.getU ([] ++ Pk.putU t.length ++ t.take (m - (Pk.putU t.length).length)) 0 = (t.length, 0 + (Pk.putU t.length).length, 0) := g
    unfold Pk.getT
    rw [e, g, if_neg (by simp), if_pos]
    simp; omega

theorem PackShort : entrepotlaw21_PackShort.Pure := by
  intro a b t at_ ha hb ht hat
  have ha := wf_i64 ha
  have hb := wf_i64 hb
  have hat := wf_u16 hat
  obtain ⟨K0, h0⟩ := shown
  by_cases hl : t.size > 300
  · refine ⟨K0 + 1, ?_⟩
    have e0 : entrepotlaw21_shown.f K0 = some true := h0 K0 (by omega)
    unfold entrepotlaw21_PackShort.f
    rw [if_pos (by omega)]
    simp only [entrepotlaw21_PackShort.j0]
    rw [if_pos trivial, e0]; rfl
  · obtain ⟨x, hx, hx1, hx2⟩ : ∃ x : Nat, mx a 0 = x ∧ x < 9223372036854775808 ∧ (x = a.toNat) := ⟨a.toNat, by unfold mx; omega, by omega, rfl⟩
    obtain ⟨y, hy, hy1, hy2⟩ : ∃ y : Nat, mx b 0 = y ∧ y < 9223372036854775808 ∧ (y = b.toNat) := ⟨b.toNat, by unfold mx; omega, by omega, rfl⟩
    obtain ⟨K1, h1⟩ := putUint (x : Int) (by omega)
    obtain ⟨K2, h2⟩ := putUint (y : Int) (by omega)
    obtain ⟨K3, h3⟩ := putText t ht
    obtain ⟨K, hK⟩ : ∃ K, K = K0 + K1 + K2 + K3 := ⟨_, rfl⟩
    refine ⟨K + 1 + 1, ?_⟩
    have e0 : entrepotlaw21_shown.f (K + 1 + 1) = some true := h0 _ (by omega)
    have e1 : pack_PutUint.f (K + 1) (x : Int) = _ := h1 (K + 1) (by omega)
    have e2 : pack_PutUint.f (K + 1) (y : Int) = _ := h2 (K + 1) (by omega)
    have e3 : pack_PutText.f (K + 1) t = _ := h3 (K + 1) (by omega)
    unfold entrepotlaw21_PackShort.f
    rw [if_neg (by omega), e0, Option.bind_some]
    simp only [entrepotlaw21_PackShort.j0]
    rw [if_neg (by simp), hx, hy, e1, Option.bind_some, e2, Option.bind_some, e3, Option.bind_some, S_size, S_size, S_size, putUI_of, putUI_of]
    have l1 := Pk.putU_len_pos x
    have l2 := putU_len9 x hx1
    have l3 := Pk.putU_len_pos y
    have l4 := putU_len9 y hy1
    have l5 : 0 < (Pk.putT t.data.toList).length := by unfold Pk.putT; rw [List.length_append]; have := Pk.putU_len_pos t.data.toList.length; omega
    have l6 : a ≤ b → (Pk.putU x).length ≤ (Pk.putU y).length := fun h => Pk.putU_mono x y (by omega)
    have l7 : (Pk.putT t.data.toList).length ≤ 309 := by
      unfold Pk.putT; rw [List.length_append, size_len]; have := putU_len9 t.size (by omega); omega
    rw [if_neg (by omega), if_neg (by omega), if_neg (by omega), if_neg (by omega), if_neg (by omega)]
    have key : entrepotlaw21_PackShort.j1 (K + 1) at_ (S (Pk.putU x)) (S (Pk.putT t.data.toList)) false = some true := by
      simp only [entrepotlaw21_PackShort.j1]
      rw [w64 at_ (by omega) (by omega), Int.tmod_eq_emod_of_nonneg (by omega), Int.tmod_eq_emod_of_nonneg (by omega), S_size, S_size]
      obtain ⟨i, hi, hi2⟩ : ∃ i : Nat, at_ % ((Pk.putU x).length : Int) = i ∧ i < (Pk.putU x).length := ⟨(at_ % ((Pk.putU x).length : Int)).toNat, by
        have := Int.emod_nonneg at_ (b := ((Pk.putU x).length : Int)) (by omega)
        omega, by
        have := Int.emod_lt_of_pos at_ (b := ((Pk.putU x).length : Int)) (by omega)
        have := Int.emod_nonneg at_ (b := ((Pk.putU x).length : Int)) (by omega)
        omega⟩
      obtain ⟨j, hj, hj2⟩ : ∃ j : Nat, at_ % ((Pk.putT t.data.toList).length : Int) = j ∧ j < (Pk.putT t.data.toList).length := ⟨(at_ % ((Pk.putT t.data.toList).length : Int)).toNat, by
        have := Int.emod_nonneg at_ (b := ((Pk.putT t.data.toList).length : Int)) (by omega)
        omega, by
        have := Int.emod_lt_of_pos at_ (b := ((Pk.putT t.data.toList).length : Int)) (by omega)
        have := Int.emod_nonneg at_ (b := ((Pk.putT t.data.toList).length : Int)) (by omega)
        omega⟩
      rw [hi, hj, if_neg (by simp), if_neg (by omega), if_neg (by omega), if_pos (by omega), if_pos (by omega), Int.toNat_natCast, Int.toNat_natCast, S_extract, S_extract, List.drop_zero, List.drop_zero, Nat.sub_zero, Nat.sub_zero]
      rw [getUint _ _ (by rw [S_size, List.length_take]; omega), Option.bind_some, S_data, Pk.getU_cut x i hx1 hi2]
      rw [if_pos (by omega), if_pos (by omega), getText _ _ (by rw [S_size, List.length_take]; omega), Option.bind_some, S_data, putT_cut _ (by rw [size_len]; omega) j hj2]
      rw [if_pos (show (t3 (0, 0, 211)).1 = 0 from rfl), if_pos (show (t3 (0, 0, 211)).2.1 = 0 from rfl), if_pos (show (t3 (0, 0, 211)).2.2 = 211 from rfl), if_pos (show (t3t ([], 0, 211)).1.toList = [] from S_toList _), if_pos (show (t3t ([], 0, 211)).2.1 = 0 from rfl)]; rfl
    by_cases hab : a ≤ b
    · rw [if_pos hab, show (decide (((Pk.putU x).length : Int) > ((Pk.putU y).length : Int))) = false from decide_eq_false (by have := l6 hab; omega)]; exact key
    · rw [if_neg hab]; exact key

theorem PackBack : entrepotlaw21_PackBack.Pure := by
  intro n t a b hn ht ha hb
  have hn := wf_i64 hn
  obtain ⟨K0, h0⟩ := shown
  have big : entrepotlaw21_PackBack.j0 (K0 + 1) n t a b true = some true := by
    have e0 : entrepotlaw21_shown.f K0 = some true := h0 K0 (by omega)
    simp only [entrepotlaw21_PackBack.j0]
    rw [if_pos trivial, e0]; rfl
  by_cases hl : t.size > 300
  · exact ⟨K0 + 1, by unfold entrepotlaw21_PackBack.f; rw [if_pos (by omega)]; exact big⟩
  by_cases hl2 : a.size > 50
  · exact ⟨K0 + 1, by unfold entrepotlaw21_PackBack.f; rw [if_neg (by omega), if_pos (by omega)]; exact big⟩
  by_cases hl3 : b.size > 50
  · exact ⟨K0 + 1, by unfold entrepotlaw21_PackBack.f; rw [if_neg (by omega), if_neg (by omega), if_pos (by omega)]; exact big⟩
  obtain ⟨K1, h1⟩ := putUint n (by omega)
  obtain ⟨K2, h2⟩ := putInt n
  obtain ⟨K3, h3⟩ := putText t ht
  obtain ⟨K, hK⟩ : ∃ K, K = K0 + K1 + K2 + K3 := ⟨_, rfl⟩
  have hz : ∀ m : List UInt8, (S m).size = m.length := S_size
  have la : a.data.toList.length = a.size := rfl
  have lb : b.data.toList.length = b.size := rfl
  have cat : ∀ m : List UInt8, a ++ S m ++ b = S (a.data.toList ++ m ++ b.data.toList) := fun m => by
    rw [← S_of a, ← S_of b, S_append, S_append, S_of, S_of]
  have j3 : entrepotlaw21_PackBack.j3 (K + 1) t a b (a.size : Int) = some true := by
    have e3 : pack_PutText.f K t = _ := h3 K (by omega)
    simp only [entrepotlaw21_PackBack.j3]
    have l9 := putU_len9 t.size (by omega)
    have lp : (Pk.putT t.data.toList).length = (Pk.putU t.size).length + t.size := by unfold Pk.putT; rw [List.length_append, size_len]
    rw [e3, Option.bind_some]
    have hs : (a ++ S (Pk.putT t.data.toList) ++ b).size = a.size + (Pk.putT t.data.toList).length + b.size := by
      rw [ByteArray.size_append, ByteArray.size_append, S_size]
    have hs0 : (a ++ S (Pk.putT t.data.toList)).size = a.size + (Pk.putT t.data.toList).length := by
      rw [ByteArray.size_append, S_size]
    rw [if_pos (by rw [S_size]; omega), if_pos (by rw [hs0]; omega)]
    rw [getText _ _ (by rw [hs]; omega), Option.bind_some, sealed _ (by rw [hs]; omega), Option.bind_some, opened _ (by rw [S_size, Pk.shut_len, size_len, hs]; omega), Option.bind_some, S_data, Pk.opn_shut]
    have g : Pk.getT (a ++ S (Pk.putT t.data.toList) ++ b).data.toList (a.size : Int) = (t.data.toList, a.size + (Pk.putT t.data.toList).length, 0) := by
      rw [cat, S_data]
      unfold Pk.getT Pk.putT
      have g := Pk.getU_put t.data.toList.length a.data.toList (t.data.toList ++ b.data.toList) (by rw [size_len]; omega)
      rw [show a.data.toList ++ Pk.putU t.data.toList.length ++ (t.data.toList ++ b.data.toList) = a.data.toList ++ (Pk.putU t.data.toList.length ++ t.data.toList) ++ b.data.toList by simp, la] at g
      rw [g]
      rw [if_neg (by simp), if_neg (by simp; omega)]
      refine Prod.ext ?_ (Prod.ext ?_ rfl)
      · show ((a.data.toList ++ (Pk.putU t.data.toList.length ++ t.data.toList) ++ b.data.toList).drop (a.size + (Pk.putU t.data.toList.length).length)).take t.data.toList.length = t.data.toList
        rw [show a.data.toList ++ (Pk.putU t.data.toList.length ++ t.data.toList) ++ b.data.toList = (a.data.toList ++ Pk.putU t.data.toList.length) ++ (t.data.toList ++ b.data.toList) by simp]
        rw [List.drop_left' (by rw [List.length_append, la]), List.take_left']
        rfl
      · show a.size + (Pk.putU t.data.toList.length).length + t.data.toList.length = a.size + (Pk.putU t.data.toList.length ++ t.data.toList).length
        rw [List.length_append]; omega
    rw [g]
    show (if (S t.data.toList).toList = t.toList then _ else _) = _
    rw [if_pos (by rw [S_of]), if_pos (by rw [w64 _ (by rw [hs]; omega) (by rw [hs]; omega), hs]; show ((a.size + (Pk.putT t.data.toList).length : Nat) : Int) = _; omega), if_pos (show (t3t (t.data.toList, a.size + (Pk.putT t.data.toList).length, 0)).2.2 = 0 from rfl), if_pos (by show (S _).toList = _; rw [S_of])]
    rfl
  have j1 : entrepotlaw21_PackBack.j1 (K + 3) n t a b (a.size : Int) = some true := by
    have j2 : ∀ c : Bool, (c = true → -2305843009213693952 ≤ n ∧ n ≤ 2305843009213693951) → entrepotlaw21_PackBack.j2 (K + 2) n t a b (a.size : Int) c = some true := by
      intro c hc
      cases c with
      | false => simp only [entrepotlaw21_PackBack.j2]; rw [if_neg (by simp)]; exact j3
      | true =>
        have hc := hc rfl
        have e2 : pack_PutInt.f (K + 1) n = _ := h2 (K + 1) (by omega)
        simp only [entrepotlaw21_PackBack.j2]
        have ep : Pk.putI n = Pk.putU (Pk.zig n) := by unfold Pk.putI; rw [if_neg (by omega)]
        have hz := zig_lt n hc.1 hc.2
        have l9 := putU_len9 (Pk.zig n) (by omega)
        rw [if_pos trivial, e2, Option.bind_some, ep]
        have hs : (a ++ S (Pk.putU (Pk.zig n)) ++ b).size = a.size + (Pk.putU (Pk.zig n)).length + b.size := by
          rw [ByteArray.size_append, ByteArray.size_append, S_size]
        have hs0 : (a ++ S (Pk.putU (Pk.zig n))).size = a.size + (Pk.putU (Pk.zig n)).length := by
          rw [ByteArray.size_append, S_size]
        rw [if_pos (by rw [S_size]; omega), if_pos (by rw [hs0]; omega)]
        have g : Pk.getI (a ++ S (Pk.putU (Pk.zig n)) ++ b).data.toList (a.size : Int) = (n, a.size + (Pk.putU (Pk.zig n)).length, 0) := by
          rw [cat, S_data]
          unfold Pk.getI
          have := Pk.getU_put (Pk.zig n) a.data.toList b.data.toList (by omega)
          rw [la] at this
          rw [this]
          show (Pk.zag (Pk.zig n), _, _) = _
          rw [Pk.zag_zig]
        rw [getInt _ _ (by rw [hs]; omega), Option.bind_some, g]
        rw [if_pos (show (t3i (n, a.size + (Pk.putU (Pk.zig n)).length, 0)).1 = n from rfl), if_pos (by rw [w64 _ (by rw [hs]; omega) (by rw [hs]; omega), hs]; show ((a.size + (Pk.putU (Pk.zig n)).length : Nat) : Int) = _; omega), if_pos (show (t3i (n, a.size + (Pk.putU (Pk.zig n)).length, 0)).2.2 = 0 from rfl)]
        exact j3
    simp only [entrepotlaw21_PackBack.j1]
    by_cases h : n ≥ -2305843009213693952
    · rw [if_pos h]; exact j2 _ (fun hc => ⟨h, of_decide_eq_true hc⟩)
    · rw [if_neg h]; exact j2 _ (fun hc => by simp at hc)
  refine ⟨K + 4, ?_⟩
  have e0 : entrepotlaw21_shown.f (K + 4) = some true := h0 _ (by omega)
  have e1 : pack_PutUint.f (K + 3) n = _ := h1 (K + 3) (by omega)
  unfold entrepotlaw21_PackBack.f
  rw [if_neg (by omega), if_neg (by omega), if_neg (by omega), e0, Option.bind_some]
  simp only [entrepotlaw21_PackBack.j0]
  rw [if_neg (by simp)]
  by_cases h : n ≥ 0
  · rw [if_pos h, e1, Option.bind_some]
    obtain ⟨m, rfl⟩ := Int.eq_ofNat_of_zero_le h
    have l9 := putU_len9 m (by omega)
    rw [putUI_of]
    have hs : (a ++ S (Pk.putU m) ++ b).size = a.size + (Pk.putU m).length + b.size := by
      rw [ByteArray.size_append, ByteArray.size_append, S_size]
    have hs0 : (a ++ S (Pk.putU m)).size = a.size + (Pk.putU m).length := by
      rw [ByteArray.size_append, S_size]
    rw [if_pos (by rw [S_size]; omega), if_pos (by rw [hs0]; omega)]
    have g : Pk.getU (a ++ S (Pk.putU m) ++ b).data.toList (a.size : Int) = (m, a.size + (Pk.putU m).length, 0) := by
      rw [cat, S_data]
      have := Pk.getU_put m a.data.toList b.data.toList (by omega)
      rwa [la] at this
    rw [getUint _ _ (by rw [hs]; omega), Option.bind_some, g]
    rw [if_pos (show (t3 (m, a.size + (Pk.putU m).length, 0)).1 = (m : Int) from rfl), if_pos (by rw [w64 _ (by rw [hs]; omega) (by rw [hs]; omega), hs]; show ((a.size + (Pk.putU m).length : Nat) : Int) = _; omega), if_pos (show (t3 (m, a.size + (Pk.putU m).length, 0)).2.2 = 0 from rfl)]
    exact j1
  · rw [if_neg h]; exact j1
end Go.Proofs.YtbcahalbjegjgaaDoor.Evs
