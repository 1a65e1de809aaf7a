/- jsonic's machine: more, walked by hand. Conditions: the machine lies as told. -/
import Derived.Test.YtainnkpoibgkcaaDoorGivenJ
namespace Go.Proofs.YtainnkpoibgkcaaDoor
set_option linter.unusedVariables false
set_option linter.unusedSimpArgs false
open Go.RowKit Go.Proofs.YtainnkpoibgkcaaDoor.PAll Go.Proofs.YtainnkpoibgkcaaDoorW.PrintWords Go.Proofs.YtainnkpoibgkcaaDoorW.PrintLast
section
variable {w : World} {base B p : Nat} {s : ByteArray} {en : UInt8} {st : List UInt8} {its : List S38} {d0 d1 : Int}
set_option maxRecDepth 100000 in
set_option maxHeartbeats 4000000 in
theorem more_bad (h : MS w base B s p (en :: st) its d0 d1) (hst : st.length < 16) (hp : p ≤ s.size) (hs : s.size ≤ 1000000000) (q : Nat) (hq : q + (Js.skip (s.data.toList.drop p)).length = s.size)
    (z : Int) (hz : Js.hd (Js.skip (s.data.toList.drop p)) = z) (h1 : z ≠ (en.toNat : Int)) (h2 : z ≠ 44) :
    Calls Tryd.prog 26 #[.pointer (some ⟨B, 0, none⟩)] w fun e w' => e = .returned (.tuple #[.int .i64 0, .bool false]) ∧ MS w' base B s q (en :: st) its q 190 ∧ Below base w w' := by
  have hbw := h.base_le
  have c18 := h.cell18
  have ct := h.topCell hst
  obtain ⟨L, hL⟩ : ∃ L, st.length = L := ⟨_, rfl⟩
  rw [List.length_cons, hL] at c18
  rw [hL] at ct hst
  have hL1 : (((L + 1 : Nat) : Int) - 1) = (L : Int) := by omega
  have hw1 : IntKind.i64.wrap ((L : Int) + 1 - 1) = (L : Int) := by rw [IntKind.wrap_i64]; omega
  have hw2 : IntKind.i64.wrap (((L + 1 : Nat) : Int) - 1) = (L : Int) := by rw [IntKind.wrap_i64]; omega
  have hL16 : (L : Int) < 16 := by omega
  have hzb : (z == (en.toNat : Int)) = false := by simpa using h1
  have hz44 : (z == 44) = false := by simpa using h2
  have HM := Aside0.mk h
  replace hq := Aside0.mk hq
  replace hz := Aside0.mk hz
  obtain ⟨e0, he0⟩ : ∃ e0, (en.toNat : Int) = e0 := ⟨_, rfl⟩
  rw [he0] at ct hzb
  have HL := Aside0.mk hL
  clear h hL h1 h2 he0
  go_enter Tryd.func26, Tryd.ntmps26
  go_wp2_with fail
  go_quiet (fail)
  have HM1 : MS (w.drewN nq) base B s p (en :: st) its d0 d1 := HM.out.below (grown_below' _ _)
  have HB1 : Below base w (w.drewN nq) := (grown_below' w nq).mono hbw
  obtain ⟨W1, hW⟩ : ∃ W, w.drewN nq = W := ⟨_, rfl⟩
  rw [hW] at HM1 HB1 ⊢
  have hpk := peek_ms HM1 hp hs q hq.out
  rw [hz.out] at hpk
  replace hpk := Aside0.mk hpk
  replace HM1 := Aside0.mk HM1
  replace HB1 := Aside0.mk HB1
  clear hW c18 ct hL1 hw1 hw2 hL16
  go_wp2_with fail
  refine hpk.out.mono ?_
  rintro e W2 ⟨rfl, m2, b2⟩
  have c0 := m2.cell0
  have c1 := m2.cell1
  have f1 := m2.froz 1
  have c18 := m2.cell18
  rw [List.length_cons, HL.out] at c18
  have f18 := m2.froz 18
  have M2 := Aside0.mk m2
  have B2 := Aside0.mk (HB1.out.trans b2)
  clear m2 b2 hpk
  go_wp2_with fail
  go_quiet (fail)
  have HMW3 : MS (W2.drewN nq) base B s q (en :: st) its d0 d1 := M2.out.below (grown_below' _ _)
  have HBW3 : Below base w (W2.drewN nq) := B2.out.trans ((grown_below' _ _).mono M2.out.base_le)
  obtain ⟨W3, hW⟩ : ∃ W, W2.drewN nq = W := ⟨_, rfl⟩
  rw [hW] at HMW3 HBW3 ⊢
  clear hW c0 c1 f1 c18 f18 M2 B2
  have c0 := HMW3.cell0
  have c1 := HMW3.cell1
  have f1 := HMW3.froz 1
  have c18 := HMW3.cell18
  rw [List.length_cons, HL.out] at c18
  have f18 := HMW3.froz 18
  have M2 := Aside0.mk HMW3
  have B2 := Aside0.mk HBW3
  clear HMW3 HBW3
  go_wp2_with fail
  go_quiet (fail)
  have HMW4 : MS (W3.drewN nq) base B s q (en :: st) its d0 d1 := M2.out.below (grown_below' _ _)
  have HBW4 : Below base w (W3.drewN nq) := B2.out.trans ((grown_below' _ _).mono M2.out.base_le)
  obtain ⟨W4, hW⟩ : ∃ W, W3.drewN nq = W := ⟨_, rfl⟩
  rw [hW] at HMW4 HBW4 ⊢
  clear hW c0 c1 f1 c18 f18 M2 B2
  have c0 := HMW4.cell0
  have c1 := HMW4.cell1
  have f1 := HMW4.froz 1
  have c18 := HMW4.cell18
  rw [List.length_cons, HL.out] at c18
  have f18 := HMW4.froz 18
  have M2 := Aside0.mk HMW4
  have B2 := Aside0.mk HBW4
  clear HMW4 HBW4
  go_wp2_with fail
  refine (fail_ms M2.out (q : Int) 190).mono ?_
  rintro e W5 ⟨rfl, m5, b5⟩
  have HF := Aside0.mk (And.intro m5 (B2.out.trans b5))
  clear m5 b5
  go_wp2_with fail
  go_ret2
  exact ⟨rfl, HF.out⟩
set_option maxRecDepth 100000 in
set_option maxHeartbeats 4000000 in
theorem more_end (h : MS w base B s p (en :: st) its d0 d1) (hst : st.length < 16) (hp : p ≤ s.size) (hs : s.size ≤ 1000000000) (hil : its.length ≤ 1000000000) (q : Nat) (hq : q + (Js.skip (s.data.toList.drop p)).length = s.size)
    (hz : Js.hd (Js.skip (s.data.toList.drop p)) = (en.toNat : Int)) (hqs : q < s.size) :
    Calls Tryd.prog 26 #[.pointer (some ⟨B, 0, none⟩)] w fun e w' => e = .returned (.tuple #[.int .i64 2, .bool true]) ∧ MS w' base B s (q + 1) st (its ++ [⟨5, 0, ByteArray.empty, (q : Int)⟩]) d0 d1 ∧ Below base w w' := by
  have hbw := h.base_le
  have c18 := h.cell18
  have ct := h.topCell hst
  obtain ⟨L, hL⟩ : ∃ L, st.length = L := ⟨_, rfl⟩
  rw [List.length_cons, hL] at c18
  rw [hL] at ct hst
  have hL1 : (((L + 1 : Nat) : Int) - 1) = (L : Int) := by omega
  have hw1 : IntKind.i64.wrap ((L : Int) + 1 - 1) = (L : Int) := by rw [IntKind.wrap_i64]; omega
  have hw2 : IntKind.i64.wrap (((L + 1 : Nat) : Int) - 1) = (L : Int) := by rw [IntKind.wrap_i64]; omega
  have hL16 : (L : Int) < 16 := by omega
  have hqs' : (q : Int) < (s.size : Int) := by omega
  have hbB : base ≤ B := by obtain ⟨o, v, _, _, hB, _⟩ := h; exact hB
  have HM := Aside0.mk h
  replace hq := Aside0.mk hq
  obtain ⟨e0, he0⟩ : ∃ e0, (en.toNat : Int) = e0 := ⟨_, rfl⟩
  rw [he0] at ct hz
  replace hz := Aside0.mk hz
  have HL := Aside0.mk hL
  clear h hL he0
  go_enter Tryd.func26, Tryd.ntmps26
  go_wp2_with fail
  go_quiet (fail)
  have HM1 : MS (w.drewN nq) base B s p (en :: st) its d0 d1 := HM.out.below (grown_below' _ _)
  have HB1 : Below base w (w.drewN nq) := (grown_below' w nq).mono hbw
  obtain ⟨W1, hW⟩ : ∃ W, w.drewN nq = W := ⟨_, rfl⟩
  rw [hW] at HM1 HB1 ⊢
  have hpk := peek_ms HM1 hp hs q hq.out
  rw [hz.out] at hpk
  replace hpk := Aside0.mk hpk
  replace HM1 := Aside0.mk HM1
  replace HB1 := Aside0.mk HB1
  clear hW c18 ct hL1 hw1 hw2 hL16
  go_wp2_with fail
  refine hpk.out.mono ?_
  rintro e W2 ⟨rfl, m2, b2⟩
  have c0 := m2.cell0
  have c1 := m2.cell1
  have f1 := m2.froz 1
  have c18 := m2.cell18
  rw [List.length_cons, HL.out] at c18
  have f18 := m2.froz 18
  have M2 := Aside0.mk m2
  have B2 := Aside0.mk (HB1.out.trans b2)
  clear m2 b2 hpk
  go_wp2_with fail
  go_quiet (fail)
  have HMW3 : MS (W2.drewN nq) base B s q (en :: st) its d0 d1 := M2.out.below (grown_below' _ _)
  have HBW3 : Below base w (W2.drewN nq) := B2.out.trans ((grown_below' _ _).mono M2.out.base_le)
  obtain ⟨W3, hW⟩ : ∃ W, W2.drewN nq = W := ⟨_, rfl⟩
  rw [hW] at HMW3 HBW3 ⊢
  clear hW c0 c1 f1 c18 f18 M2 B2
  have c0 := HMW3.cell0
  have c1 := HMW3.cell1
  have f1 := HMW3.froz 1
  have c18 := HMW3.cell18
  rw [List.length_cons, HL.out] at c18
  have f18 := HMW3.froz 18
  have M2 := Aside0.mk HMW3
  have B2 := Aside0.mk HBW3
  clear HMW3 HBW3
  have hpt := Aside0.mk (put_ms M2.out hil ⟨5, 0, ByteArray.empty, (q : Int)⟩)
  go_wp2_with fail
  refine hpt.out.mono ?_
  rintro e W5 ⟨rfl, m5, b5⟩
  clear c0 c1 f1 c18 f18
  have c1 := m5.cell1
  have f1 := m5.froz 1
  have c18 := m5.cell18
  rw [List.length_cons, HL.out] at c18
  have f18 := m5.froz 18
  have M5 := Aside0.mk m5
  have B5 := Aside0.mk (B2.out.trans b5)
  have hL1 : (((L + 1 : Nat) : Int) - 1) = (L : Int) := by omega
  have hLs : (L : Int) + 1 - 1 = (L : Int) := by omega
  clear m5 b5 M2 B2 hpt
  go_wp2_with fail
  go_ret2
  have h7 := M5.out.pop
  rw [HL.out] at h7
  have h8 := h7.put (w' := (W5.setCell ⟨B, 18, none⟩ (.int .i64 (L : Int))).setCell ⟨B, 1, none⟩ (.int .i64 ((q : Int) + 1))) (p' := q + 1) (e0 := d0) (e1 := d1) (fun o v hM => hM.set 1 _ rfl) (grown_set _ _ _ _)
  have h9 := (B5.out.setCell (p := ⟨B, 18, none⟩) hbB (.int .i64 (L : Int))).setCell (p := ⟨B, 1, none⟩) hbB (.int .i64 ((q : Int) + 1))
  exact ⟨rfl, h8.1, h9⟩
set_option maxRecDepth 100000 in
set_option maxHeartbeats 4000000 in
theorem more_comma (h : MS w base B s p (en :: st) its d0 d1) (hst : st.length < 16) (hp : p ≤ s.size) (hs : s.size ≤ 1000000000) (q : Nat) (hq : q + (Js.skip (s.data.toList.drop p)).length = s.size)
    (z : Int) (hz : Js.hd (Js.skip (s.data.toList.drop p)) = z) (h1 : z ≠ (en.toNat : Int)) (h2 : z = 44) (hqs : q < s.size) (hbyte : s[q] = 44) :
    Calls Tryd.prog 26 #[.pointer (some ⟨B, 0, none⟩)] w fun e w' => e = .returned (.tuple #[.int .i64 (if en = 125 then 1 else 0), .bool true]) ∧ MS w' base B s (q + 1) (en :: st) its d0 d1 ∧ Below base w w' := by
  obtain ⟨y, hy⟩ : ∃ y : Int, (if en = 125 then (1 : Int) else 0) = y := ⟨_, rfl⟩
  rw [hy]
  replace hy := Aside0.mk hy
  have hbw := h.base_le
  have c18 := h.cell18
  have ct := h.topCell hst
  obtain ⟨L, hL⟩ : ∃ L, st.length = L := ⟨_, rfl⟩
  rw [List.length_cons, hL] at c18
  rw [hL] at ct hst
  have hL1 : (((L + 1 : Nat) : Int) - 1) = (L : Int) := by omega
  have hw1 : IntKind.i64.wrap ((L : Int) + 1 - 1) = (L : Int) := by rw [IntKind.wrap_i64]; omega
  have hw2 : IntKind.i64.wrap (((L + 1 : Nat) : Int) - 1) = (L : Int) := by rw [IntKind.wrap_i64]; omega
  have hL16 : (L : Int) < 16 := by omega
  have hzb : (z == (en.toNat : Int)) = false := by simpa using h1
  have hqs' : (q : Int) < (s.size : Int) := by omega
  have hbB : base ≤ B := by obtain ⟨o, v, _, _, hB, _⟩ := h; exact hB
  subst h2
  have HM := Aside0.mk h
  replace hq := Aside0.mk hq
  replace hz := Aside0.mk hz
  obtain ⟨e0, he0⟩ : ∃ e0, (en.toNat : Int) = e0 := ⟨_, rfl⟩
  rw [he0] at ct hzb
  have HL := Aside0.mk hL
  clear h hL h1
  go_enter Tryd.func26, Tryd.ntmps26
  go_wp2_with fail
  go_quiet (fail)
  have HM1 : MS (w.drewN nq) base B s p (en :: st) its d0 d1 := HM.out.below (grown_below' _ _)
  have HB1 : Below base w (w.drewN nq) := (grown_below' w nq).mono hbw
  obtain ⟨W1, hW⟩ : ∃ W, w.drewN nq = W := ⟨_, rfl⟩
  rw [hW] at HM1 HB1 ⊢
  have hpk := peek_ms HM1 hp hs q hq.out
  rw [hz.out] at hpk
  replace hpk := Aside0.mk hpk
  replace HM1 := Aside0.mk HM1
  replace HB1 := Aside0.mk HB1
  clear hW c18 ct hL1 hw1 hw2 hL16
  go_wp2_with fail
  refine hpk.out.mono ?_
  rintro e W2 ⟨rfl, m2, b2⟩
  have c0 := m2.cell0
  have c1 := m2.cell1
  have f1 := m2.froz 1
  have c18 := m2.cell18
  rw [List.length_cons, HL.out] at c18
  have f18 := m2.froz 18
  have M2 := Aside0.mk m2
  have B2 := Aside0.mk (HB1.out.trans b2)
  clear m2 b2 hpk
  go_wp2_with fail
  go_quiet (fail)
  have HMW3 : MS (W2.drewN nq) base B s q (en :: st) its d0 d1 := M2.out.below (grown_below' _ _)
  have HBW3 : Below base w (W2.drewN nq) := B2.out.trans ((grown_below' _ _).mono M2.out.base_le)
  obtain ⟨W3, hW⟩ : ∃ W, W2.drewN nq = W := ⟨_, rfl⟩
  rw [hW] at HMW3 HBW3 ⊢
  clear hW c0 c1 f1 c18 f18 M2 B2
  have c0 := HMW3.cell0
  have c1 := HMW3.cell1
  have f1 := HMW3.froz 1
  have c18 := HMW3.cell18
  rw [List.length_cons, HL.out] at c18
  have f18 := HMW3.froz 18
  have M2 := Aside0.mk HMW3
  have B2 := Aside0.mk HBW3
  clear HMW3 HBW3
  go_wp2_with fail
  go_quiet (fail)
  have HMW4 : MS (W3.drewN nq) base B s q (en :: st) its d0 d1 := M2.out.below (grown_below' _ _)
  have HBW4 : Below base w (W3.drewN nq) := B2.out.trans ((grown_below' _ _).mono M2.out.base_le)
  obtain ⟨W4, hW⟩ : ∃ W, W3.drewN nq = W := ⟨_, rfl⟩
  rw [hW] at HMW4 HBW4 ⊢
  clear hW c0 c1 f1 c18 f18 M2 B2
  have c0 := HMW4.cell0
  have c1 := HMW4.cell1
  have f1 := HMW4.froz 1
  have c18 := HMW4.cell18
  rw [List.length_cons, HL.out] at c18
  have f18 := HMW4.froz 18
  have M2 := Aside0.mk HMW4
  have B2 := Aside0.mk HBW4
  clear HMW4 HBW4
  by_cases h125 : en = 125
  · have h5 : (e0 == 125) = true := by rw [← he0, h125]; rfl
    have hy2 : Aside0 (y = 1) := ⟨by rw [← hy.out, if_pos h125]⟩
    clear he0
    go_wp2_with fail
    go_ret2
    have h8 := M2.out.put (w' := W4.setCell ⟨B, 1, none⟩ (.int .i64 ((q : Int) + 1))) (p' := q + 1) (e0 := d0) (e1 := d1) (fun o v hM => hM.set 1 _ rfl) (grown_set _ _ _ _)
    rw [hy2.out]
    exact ⟨rfl, h8.1, B2.out.trans h8.2⟩
  · have h5 : (e0 == 125) = false := by
      rw [← he0]
      have : en.toNat ≠ 125 := fun e => h125 (UInt8.toNat_inj.1 e)
      simp; omega
    have hy2 : Aside0 (y = 0) := ⟨by rw [← hy.out, if_neg h125]⟩
    clear he0
    go_wp2_with fail
    go_ret2
    have h8 := M2.out.put (w' := W4.setCell ⟨B, 1, none⟩ (.int .i64 ((q : Int) + 1))) (p' := q + 1) (e0 := d0) (e1 := d1) (fun o v hM => hM.set 1 _ rfl) (grown_set _ _ _ _)
    rw [hy2.out]
    exact ⟨rfl, h8.1, B2.out.trans h8.2⟩
end
end Go.Proofs.YtainnkpoibgkcaaDoor
