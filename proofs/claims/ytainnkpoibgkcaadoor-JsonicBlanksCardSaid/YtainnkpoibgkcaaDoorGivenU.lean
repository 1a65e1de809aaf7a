/- jsonic's writer: many, walked by hand. Conditions: the writer lies as told; its texts are at most 1000000000 bytes each. -/
import Derived.Test.YtainnkpoibgkcaaDoorGivenT
namespace Go.Proofs.YtainnkpoibgkcaaDoor
set_option linter.unusedVariables false
set_option linter.unusedSimpArgs false
open Go.RowKit Go.Proofs.YtainnkpoibgkcaaDoor.PAll Go.Proofs.YtainnkpoibgkcaaDoorW.PrintWords Go.Proofs.YtainnkpoibgkcaaDoorW.PrintLast

def lenAt (wb : Nat) (w : World) : Nat := match w.cell? ⟨wb, 2, none⟩ with
  | some (.slice _ n _) => n
  | _ => 0
theorem WS.lenAt {w : World} {base wb : Nat} {l : List S38} {bs : List UInt8} (h : WS w base wb l bs) : lenAt wb w = l.length := by
  obtain ⟨A, c, h2, _⟩ := h.cells
  unfold Go.Proofs.YtainnkpoibgkcaaDoor.lenAt; rw [h2]
def cm (first : Bool) : ByteArray := if first then ⟨#[]⟩ else ⟨#[44]⟩
theorem cm_size (first : Bool) : (cm first).size ≤ 1 := by cases first <;> simp [cm, ByteArray.size]
theorem cm_data (first : Bool) : (cm first).data.toList = if first then [] else [44] := by cases first <;> rfl
/-- What holds at the head of each round. -/
def MRel (w0 : World) (n base wb p q d : Nat) (obj : Bool) (bs : List UInt8) (R : Js.Pr) (t9 : Value) (wr : World) : Prop :=
  ∃ (first : Bool) (l : List S38) (acc : List UInt8) (k : Nat), t9 = .string (cm first) ∧ BK base wb w0 wr ∧ WS wr base wb l (bs ++ acc) ∧ R = Js.pre acc (Js.pmany k d obj first l) ∧ l.length ≤ n ∧ 2 * l.length + 2 ≤ k ∧ Fine l ∧ (bs ++ acc).length + Js.osz l + 2 ≤ 140737488355328
theorem pre_pre (a b : List UInt8) (R : Js.Pr) : Js.pre a (Js.pre b R) = Js.pre (a ++ b) R := by
  cases R with
  | none => rfl
  | some p => obtain ⟨o, r⟩ := p; simp [Js.pre]
theorem pone_nil {v : List S38 → Js.Pr} (hv : v [] = none) (obj : Bool) : Js.pone v obj [] = none := by cases obj <;> simp [Js.pone, hv]
theorem pval_nil (k d : Nat) : Js.pval k d [] = none := by cases k <;> simp [Js.pval]
theorem pmany_end {k d : Nat} {obj first : Bool} {x : S38} {r : List S38} (h : x.f0 = 5) : Js.pmany (k + 1) d obj first (x :: r) = some ([if obj then 125 else 93], r) := by simp [Js.pmany, h]
theorem pmany_more {k d : Nat} {obj first : Bool} {l : List S38} (h : ∀ x r, l = x :: r → x.f0 ≠ 5) : Js.pmany (k + 1) d obj first l = match Js.pone (Js.pval k (d + 1)) obj l with
    | some (o, r') => Js.pre ((if first then [] else [44]) ++ o) (Js.pmany k d obj false r')
    | none => none := by
  cases l with
  | nil => rw [pone_nil (pval_nil _ _)]; simp [Js.pmany]
  | cons x r => simp only [Js.pmany, if_neg (h x r rfl)]; rfl
set_option maxRecDepth 100000 in
set_option maxHeartbeats 4000000 in
theorem many_list {n k d base wb p q : Nat} {l : List S38} {w : World} {bs : List UInt8} (hO : OC n false 33 d base wb p q) (hn : l.length ≤ n) (hk : 2 * l.length + 2 ≤ k) (hf : Fine l) (hz : bs.length + 1 + Js.osz l + 2 ≤ 140737488355328) (ht : TB base w) (hvb : VB w wb p q d) (hws : WS w base wb l bs) :
    Calls Tryd.prog 32 #[.pointer (some ⟨wb, 0, none⟩), .string ⟨#[91]⟩, .string ⟨#[93]⟩, .func (.func 33) #[] #[.pointer (some ⟨p, 0, none⟩), .pointer (some ⟨q, 0, none⟩)]] w fun e w' => PPost w base wb bs (Js.pre [91] (Js.pmany k d false true l)) e w' := by
  have hs := Aside0.mk (ws_string hws ⟨#[91]⟩ (by rw [bsz1]; omega))
  have HO := Aside0.mk hO
  have HT := Aside0.mk ht
  have HV := Aside0.mk hvb
  have HFN := Aside0.mk hf
  obtain ⟨R, hR⟩ : ∃ R, Js.pre [91] (Js.pmany k d false true l) = R := ⟨_, rfl⟩
  rw [hR]
  have HR := Aside0.mk hR
  replace hz := Aside0.mk hz
  clear hO ht hvb hf hR
  go_enter Tryd.func32, Tryd.ntmps32
  go_wp2_with fail
  refine hs.out.mono ?_
  rintro e W1 ⟨rfl, m1, b1⟩
  have HM := Aside0.mk (And.intro m1 b1)
  clear m1 b1 hs hws
  go_wp2_with fail
  go_loopw [9] (fun t9 wr => MRel w n base wb p q d false bs R t9 wr) (fun _ wr => lenAt wb wr)
  case atStart =>
    exact ⟨true, l, [91], k, rfl, HM.out.2, HM.out.1, HR.out.symm, hn, hk, HFN.out, by have := hz.out; simp only [List.length_append, List.length_cons, List.length_nil]; omega⟩
  case round =>
    clear HM HFN hz HR hn hk
    obtain ⟨first, l, acc, k, rfl, hb, hws, hR, hn, hk, hf, hz⟩ := hrel
    have HL : Aside0 (lenAt wb wr = l.length) := ⟨hws.lenAt⟩
    obtain ⟨k, rfl⟩ : ∃ k', k = k' + 1 := ⟨k - 1, by omega⟩
    have hbs := hws.base_le
    by_cases h5 : ∃ x r, l = x :: r ∧ x.f0 = 5
    · obtain ⟨x, r, rfl, hx⟩ := h5
      rw [pmany_end hx] at hR
      have htk := Aside0.mk (take_yes hws 5 hx)
      have HB := Aside0.mk hb
      have HR := Aside0.mk hR
      have hz' : (bs ++ acc).length + 1 ≤ 140737488355328 := by omega
      replace hz' := Aside0.mk hz'
      clear hws hb hR hf hz hn hk
      go_wp2_with fail
      refine htk.out.mono ?_
      rintro e W2 ⟨rfl, m2, b2⟩
      have hni : it x = .agg #[.int .i64 x.f0, .int .i64 x.f1, .string x.f2, .int .i64 x.f3] := rfl
      rw [hni]
      have hs2 := Aside0.mk (ws_string (m2.keep ((Below.refl _ _).alloc (Nat.le_refl _) (.cells #[.int .i64 x.f0, .int .i64 x.f1, .string x.f2, .int .i64 x.f3] 38))) ⟨#[93]⟩ (by rw [bsz1]; exact hz'.out))
      have HB2 := Aside0.mk (HB.out.trans (b2.trans (BK.of_below (by have := m2.base_le; omega) ((Below.refl _ _).alloc (Nat.le_refl _) (.cells #[.int .i64 x.f0, .int .i64 x.f1, .string x.f2, .int .i64 x.f3] 38)))))
      clear m2 b2 htk hni hx
      go_wp2_with fail
      refine hs2.out.mono ?_
      rintro e W3 ⟨rfl, m3, b3⟩
      have HF := Aside0.mk (And.intro m3 (HB2.out.trans b3))
      clear m3 b3 hs2
      go_wp2_with fail
      go_ret
      rw [HR.out]
      refine ⟨HF.out.2, rfl, ?_⟩
      rw [← List.append_assoc]
      exact HF.out.1
    · have h5' : ∀ x r, l = x :: r → x.f0 ≠ 5 := fun x r h hx => h5 ⟨x, r, h, hx⟩
      rw [pmany_more h5'] at hR
      have htk := Aside0.mk (take_no hws 5 h5')
      have HB := Aside0.mk hb
      have HR := Aside0.mk hR
      have HFN := Aside0.mk hf
      have HZ := Aside0.mk hz
      obtain ⟨scm, hscm⟩ : ∃ s, cm first = s := ⟨_, rfl⟩
      rw [hscm]
      have hsz := cm_size first
      have hsd := cm_data first
      rw [hscm] at hsz hsd
      replace hsd := Aside0.mk hsd
      clear hws hb hR hf hz h5 h5' hscm
      go_wp2_with fail
      refine htk.out.mono ?_
      rintro e W2 ⟨rfl, m2, b2⟩
      have hni : noIt = .agg #[.int .i64 0, .int .i64 0, .string ⟨#[]⟩, .int .i64 0] := rfl
      rw [hni]
      have hs2 := Aside0.mk (ws_string (m2.keep ((Below.refl _ _).alloc (Nat.le_refl _) (.cells #[.int .i64 0, .int .i64 0, .string ⟨#[]⟩, .int .i64 0] 38))) scm (by have := HZ.out; omega))
      have HB2 := Aside0.mk (HB.out.trans (b2.trans (BK.of_below (by have := m2.base_le; omega) ((Below.refl _ _).alloc (Nat.le_refl _) (.cells #[.int .i64 0, .int .i64 0, .string ⟨#[]⟩, .int .i64 0] 38)))))
      clear m2 b2 htk hni
      go_wp2_with fail
      refine hs2.out.mono ?_
      rintro e W3 ⟨rfl, m3, b3⟩
      rw [hsd.out] at m3
      have b3' := HB2.out.trans b3
      have hzz : ((bs ++ acc) ++ (if first then [] else [44])).length + Js.osz l ≤ 140737488355328 := by
        have := HZ.out
        cases first <;> simp only [List.length_append, List.length_cons, List.length_nil, if_true, if_false, Bool.false_eq_true] at this ⊢ <;> omega
      have hone := HO.out k l W3 ((bs ++ acc) ++ (if first then [] else [44])) hn (by omega) HFN.out hzz (HT.out.bk b3') (HV.out.bk b3') m3
      replace hone := Aside0.mk hone
      have HB3 := Aside0.mk b3'
      clear m3 b3 b3' hs2 hzz
      go_wp2_with fail
      refine hone.out.mono ?_
      intro e W4 h
      have HR2 := HR.out
      cases hp : Js.pone (Js.pval k (d + 1)) false l with
      | none =>
        rw [hp] at h HR2
        obtain ⟨b4, rfl⟩ := h
        have HF := Aside0.mk (And.intro (HB3.out.trans b4) HR2)
        clear b4 hone HR2 hp
        go_wp2_with fail
        go_ret
        rw [HF.out.2]
        exact ⟨HF.out.1, rfl⟩
      | some oo =>
        obtain ⟨o, r'⟩ := oo
        rw [hp] at h HR2
        simp only at HR2
        obtain ⟨b4, rfl, m4⟩ := h
        have hft := Js.pone_fits ((Js.fits_all k).1 (d + 1)) false l o r' hp
        have hN : MRel w n base wb p q d false bs R (.string (cm false)) W4 := by
          refine ⟨false, r', acc ++ ((if first then [] else [44]) ++ o), k, rfl, HB3.out.trans b4, ?_, ?_, by omega, by omega, HFN.out.suffix hft.2.1, ?_⟩
          · simp only [List.append_assoc] at m4 ⊢; exact m4
          · rw [HR2, pre_pre]
          · have := HZ.out
            cases first <;> simp only [List.length_append, List.length_cons, List.length_nil, if_true, if_false, Bool.false_eq_true] at this ⊢ <;> omega
        have hlt : lenAt wb W4 < l.length := by rw [m4.lenAt]; exact hft.2.2
        have HF := Aside0.mk (And.intro hN hlt)
        clear hN hlt b4 hone HR2 hp m4 hft
        go_wp2_with fail
        exact ⟨HF.out.1, by rw [HL.out]; exact HF.out.2⟩
set_option maxRecDepth 100000 in
set_option maxHeartbeats 4000000 in
theorem many_obj {n k d base wb p q : Nat} {l : List S38} {w : World} {bs : List UInt8} (hO : OC n true 34 d base wb p q) (hn : l.length ≤ n) (hk : 2 * l.length + 2 ≤ k) (hf : Fine l) (hz : bs.length + 1 + Js.osz l + 2 ≤ 140737488355328) (ht : TB base w) (hvb : VB w wb p q d) (hws : WS w base wb l bs) :
    Calls Tryd.prog 32 #[.pointer (some ⟨wb, 0, none⟩), .string ⟨#[123]⟩, .string ⟨#[125]⟩, .func (.func 34) #[] #[.pointer (some ⟨p, 0, none⟩), .pointer (some ⟨q, 0, none⟩)]] w fun e w' => PPost w base wb bs (Js.pre [123] (Js.pmany k d true true l)) e w' := by
  have hs := Aside0.mk (ws_string hws ⟨#[123]⟩ (by rw [bsz1]; omega))
  have HO := Aside0.mk hO
  have HT := Aside0.mk ht
  have HV := Aside0.mk hvb
  have HFN := Aside0.mk hf
  obtain ⟨R, hR⟩ : ∃ R, Js.pre [123] (Js.pmany k d true true l) = R := ⟨_, rfl⟩
  rw [hR]
  have HR := Aside0.mk hR
  replace hz := Aside0.mk hz
  clear hO ht hvb hf hR
  go_enter Tryd.func32, Tryd.ntmps32
  go_wp2_with fail
  refine hs.out.mono ?_
  rintro e W1 ⟨rfl, m1, b1⟩
  have HM := Aside0.mk (And.intro m1 b1)
  clear m1 b1 hs hws
  go_wp2_with fail
  go_loopw [9] (fun t9 wr => MRel w n base wb p q d true bs R t9 wr) (fun _ wr => lenAt wb wr)
  case atStart =>
    exact ⟨true, l, [123], k, rfl, HM.out.2, HM.out.1, HR.out.symm, hn, hk, HFN.out, by have := hz.out; simp only [List.length_append, List.length_cons, List.length_nil]; omega⟩
  case round =>
    clear HM HFN hz HR hn hk
    obtain ⟨first, l, acc, k, rfl, hb, hws, hR, hn, hk, hf, hz⟩ := hrel
    have HL : Aside0 (lenAt wb wr = l.length) := ⟨hws.lenAt⟩
    obtain ⟨k, rfl⟩ : ∃ k', k = k' + 1 := ⟨k - 1, by omega⟩
    have hbs := hws.base_le
    by_cases h5 : ∃ x r, l = x :: r ∧ x.f0 = 5
    · obtain ⟨x, r, rfl, hx⟩ := h5
      rw [pmany_end hx] at hR
      have htk := Aside0.mk (take_yes hws 5 hx)
      have HB := Aside0.mk hb
      have HR := Aside0.mk hR
      have hz' : (bs ++ acc).length + 1 ≤ 140737488355328 := by omega
      replace hz' := Aside0.mk hz'
      clear hws hb hR hf hz hn hk
      go_wp2_with fail
      refine htk.out.mono ?_
      rintro e W2 ⟨rfl, m2, b2⟩
      have hni : it x = .agg #[.int .i64 x.f0, .int .i64 x.f1, .string x.f2, .int .i64 x.f3] := rfl
      rw [hni]
      have hs2 := Aside0.mk (ws_string (m2.keep ((Below.refl _ _).alloc (Nat.le_refl _) (.cells #[.int .i64 x.f0, .int .i64 x.f1, .string x.f2, .int .i64 x.f3] 38))) ⟨#[125]⟩ (by rw [bsz1]; exact hz'.out))
      have HB2 := Aside0.mk (HB.out.trans (b2.trans (BK.of_below (by have := m2.base_le; omega) ((Below.refl _ _).alloc (Nat.le_refl _) (.cells #[.int .i64 x.f0, .int .i64 x.f1, .string x.f2, .int .i64 x.f3] 38)))))
      clear m2 b2 htk hni hx
      go_wp2_with fail
      refine hs2.out.mono ?_
      rintro e W3 ⟨rfl, m3, b3⟩
      have HF := Aside0.mk (And.intro m3 (HB2.out.trans b3))
      clear m3 b3 hs2
      go_wp2_with fail
      go_ret
      rw [HR.out]
      refine ⟨HF.out.2, rfl, ?_⟩
      rw [← List.append_assoc]
      exact HF.out.1
    · have h5' : ∀ x r, l = x :: r → x.f0 ≠ 5 := fun x r h hx => h5 ⟨x, r, h, hx⟩
      rw [pmany_more h5'] at hR
      have htk := Aside0.mk (take_no hws 5 h5')
      have HB := Aside0.mk hb
      have HR := Aside0.mk hR
      have HFN := Aside0.mk hf
      have HZ := Aside0.mk hz
      obtain ⟨scm, hscm⟩ : ∃ s, cm first = s := ⟨_, rfl⟩
      rw [hscm]
      have hsz := cm_size first
      have hsd := cm_data first
      rw [hscm] at hsz hsd
      replace hsd := Aside0.mk hsd
      clear hws hb hR hf hz h5 h5' hscm
      go_wp2_with fail
      refine htk.out.mono ?_
      rintro e W2 ⟨rfl, m2, b2⟩
      have hni : noIt = .agg #[.int .i64 0, .int .i64 0, .string ⟨#[]⟩, .int .i64 0] := rfl
      rw [hni]
      have hs2 := Aside0.mk (ws_string (m2.keep ((Below.refl _ _).alloc (Nat.le_refl _) (.cells #[.int .i64 0, .int .i64 0, .string ⟨#[]⟩, .int .i64 0] 38))) scm (by have := HZ.out; omega))
      have HB2 := Aside0.mk (HB.out.trans (b2.trans (BK.of_below (by have := m2.base_le; omega) ((Below.refl _ _).alloc (Nat.le_refl _) (.cells #[.int .i64 0, .int .i64 0, .string ⟨#[]⟩, .int .i64 0] 38)))))
      clear m2 b2 htk hni
      go_wp2_with fail
      refine hs2.out.mono ?_
      rintro e W3 ⟨rfl, m3, b3⟩
      rw [hsd.out] at m3
      have b3' := HB2.out.trans b3
      have hzz : ((bs ++ acc) ++ (if first then [] else [44])).length + Js.osz l ≤ 140737488355328 := by
        have := HZ.out
        cases first <;> simp only [List.length_append, List.length_cons, List.length_nil, if_true, if_false, Bool.false_eq_true] at this ⊢ <;> omega
      have hone := HO.out k l W3 ((bs ++ acc) ++ (if first then [] else [44])) hn (by omega) HFN.out hzz (HT.out.bk b3') (HV.out.bk b3') m3
      replace hone := Aside0.mk hone
      have HB3 := Aside0.mk b3'
      clear m3 b3 b3' hs2 hzz
      go_wp2_with fail
      refine hone.out.mono ?_
      intro e W4 h
      have HR2 := HR.out
      cases hp : Js.pone (Js.pval k (d + 1)) true l with
      | none =>
        rw [hp] at h HR2
        obtain ⟨b4, rfl⟩ := h
        have HF := Aside0.mk (And.intro (HB3.out.trans b4) HR2)
        clear b4 hone HR2 hp
        go_wp2_with fail
        go_ret
        rw [HF.out.2]
        exact ⟨HF.out.1, rfl⟩
      | some oo =>
        obtain ⟨o, r'⟩ := oo
        rw [hp] at h HR2
        simp only at HR2
        obtain ⟨b4, rfl, m4⟩ := h
        have hft := Js.pone_fits ((Js.fits_all k).1 (d + 1)) true l o r' hp
        have hN : MRel w n base wb p q d true bs R (.string (cm false)) W4 := by
          refine ⟨false, r', acc ++ ((if first then [] else [44]) ++ o), k, rfl, HB3.out.trans b4, ?_, ?_, by omega, by omega, HFN.out.suffix hft.2.1, ?_⟩
          · simp only [List.append_assoc] at m4 ⊢; exact m4
          · rw [HR2, pre_pre]
          · have := HZ.out
            cases first <;> simp only [List.length_append, List.length_cons, List.length_nil, if_true, if_false, Bool.false_eq_true] at this ⊢ <;> omega
        have hlt : lenAt wb W4 < l.length := by rw [m4.lenAt]; exact hft.2.2
        have HF := Aside0.mk (And.intro hN hlt)
        clear hN hlt b4 hone HR2 hp m4 hft
        go_wp2_with fail
        exact ⟨HF.out.1, by rw [HL.out]; exact HF.out.2⟩
end Go.Proofs.YtainnkpoibgkcaaDoor
