/- jsonic's writer: value, walked by hand. Conditions: the writer lies as told; its texts are at most 1000000000 bytes each, its numbers in 64 bits; the listed variables. -/
import Derived.Test.YtainnkpoibgkcaaDoorGivenT
namespace Go.Proofs.YtainnkpoibgkcaaDoor
set_option linter.unusedVariables false
set_option linter.unusedSimpArgs false
open Go.RowKit Go.Proofs.YtainnkpoibgkcaaDoor.PAll Go.Proofs.YtainnkpoibgkcaaDoorW.PrintWords Go.Proofs.YtainnkpoibgkcaaDoorW.PrintLast

def lenAt (wb : Nat) (w : World) : Nat := match w.cell? ⟨wb, 2, none⟩ with
  | some (.slice _ n _) => n
  | _ => 0
theorem WS.lenAt {w : World} {base wb : Nat} {l : List S38} {bs : List UInt8} (h : WS w base wb l bs) : lenAt wb w = l.length := by
  obtain ⟨A, c, h2, _⟩ := h.cells
  unfold Go.Proofs.YtainnkpoibgkcaaDoor.lenAt; rw [h2]
def cm (first : Bool) : ByteArray := if first then ⟨#[]⟩ else ⟨#[44]⟩
theorem cm_size (first : Bool) : (cm first).size ≤ 1 := by cases first <;> simp [cm, ByteArray.size]
theorem cm_data (first : Bool) : (cm first).data.toList = if first then [] else [44] := by cases first <;> rfl
/-- What holds at the head of each round. -/
def MRel (w0 : World) (n base wb p q d : Nat) (obj : Bool) (bs : List UInt8) (R : Js.Pr) (t9 : Value) (wr : World) : Prop :=
  ∃ (first : Bool) (l : List S38) (acc : List UInt8) (k : Nat), t9 = .string (cm first) ∧ BK base wb w0 wr ∧ WS wr base wb l (bs ++ acc) ∧ R = Js.pre acc (Js.pmany k d obj first l) ∧ l.length ≤ n ∧ 2 * l.length + 2 ≤ k ∧ Fine l ∧ (bs ++ acc).length + Js.osz l + 2 ≤ 140737488355328
theorem pre_pre (a b : List UInt8) (R : Js.Pr) : Js.pre a (Js.pre b R) = Js.pre (a ++ b) R := by
  cases R with
  | none => rfl
  | some p => obtain ⟨o, r⟩ := p; simp [Js.pre]
theorem pone_nil {v : List S38 → Js.Pr} (hv : v [] = none) (obj : Bool) : Js.pone v obj [] = none := by cases obj <;> simp [Js.pone, hv]
theorem pval_nil (k d : Nat) : Js.pval k d [] = none := by cases k <;> simp [Js.pval]
theorem pmany_end {k d : Nat} {obj first : Bool} {x : S38} {r : List S38} (h : x.f0 = 5) : Js.pmany (k + 1) d obj first (x :: r) = some ([if obj then 125 else 93], r) := by simp [Js.pmany, h]
theorem pmany_more {k d : Nat} {obj first : Bool} {l : List S38} (h : ∀ x r, l = x :: r → x.f0 ≠ 5) : Js.pmany (k + 1) d obj first l = match Js.pone (Js.pval k (d + 1)) obj l with
    | some (o, r') => Js.pre ((if first then [] else [44]) ++ o) (Js.pmany k d obj false r')
    | none => none := by
  cases l with
  | nil => rw [pone_nil (pval_nil _ _)]; simp [Js.pmany]
  | cons x r => simp only [Js.pmany, if_neg (h x r rfl)]; rfl
set_option maxRecDepth 100000 in
set_option maxHeartbeats 4000000 in
theorem many_list {n k d base wb p q : Nat} {l : List S38} {w : World} {bs : List UInt8} (hO : OC n false 33 d base wb p q) (hn : l.length ≤ n) (hk : 2 * l.length + 2 ≤ k) (hf : Fine l) (hz : bs.length + 1 + Js.osz l + 2 ≤ 140737488355328) (ht : TB base w) (hvb : VB w wb p q d) (hws : WS w base wb l bs) :
    Calls Tryd.prog 32 #[.pointer (some ⟨wb, 0, none⟩), .string ⟨#[91]⟩, .string ⟨#[93]⟩, .func (.func 33) #[] #[.pointer (some ⟨p, 0, none⟩), .pointer (some ⟨q, 0, none⟩)]] w fun e w' => PPost w base wb bs (Js.pre [91] (Js.pmany k d false true l)) e w' := by
  have hs := Aside0.mk (ws_string hws ⟨#[91]⟩ (by rw [bsz1]; omega))
  have HO := Aside0.mk hO
  have HT := Aside0.mk ht
  have HV := Aside0.mk hvb
  have HFN := Aside0.mk hf
  obtain ⟨R, hR⟩ : ∃ R, Js.pre [91] (Js.pmany k d false true l) = R := ⟨_, rfl⟩
  rw [hR]
  have HR := Aside0.mk hR
  replace hz := Aside0.mk hz
  clear hO ht hvb hf hR
  go_enter Tryd.func32, Tryd.ntmps32
  go_wp2_with fail
  refine hs.out.mono ?_
  rintro e W1 ⟨rfl, m1, b1⟩
  have HM := Aside0.mk (And.intro m1 b1)
  clear m1 b1 hs hws
  go_wp2_with fail
  go_loopw [9] (fun t9 wr => MRel w n base wb p q d false bs R t9 wr) (fun _ wr => lenAt wb wr)
  case atStart =>
    exact ⟨true, l, [91], k, rfl, HM.out.2, HM.out.1, HR.out.symm, hn, hk, HFN.out, by have := hz.out; simp only [List.length_append, List.length_cons, List.length_nil]; omega⟩
  case round =>
    clear HM HFN hz HR hn hk
    obtain ⟨first, l, acc, k, rfl, hb, hws, hR, hn, hk, hf, hz⟩ := hrel
    have HL : Aside0 (lenAt wb wr = l.length) := ⟨hws.lenAt⟩
    obtain ⟨k, rfl⟩ : ∃ k', k = k' + 1 := ⟨k - 1, by omega⟩
    have hbs := hws.base_le
    by_cases h5 : ∃ x r, l = x :: r ∧ x.f0 = 5
    · obtain ⟨x, r, rfl, hx⟩ := h5
      rw [pmany_end hx] at hR
      have htk := Aside0.mk (take_yes hws 5 hx)
      have HB := Aside0.mk hb
      have HR := Aside0.mk hR
      have hz' : (bs ++ acc).length + 1 ≤ 140737488355328 := by omega
      replace hz' := Aside0.mk hz'
      clear hws hb hR hf hz hn hk
      go_wp2_with fail
      refine htk.out.mono ?_
      rintro e W2 ⟨rfl, m2, b2⟩
      have hni : it x = .agg #[.int .i64 x.f0, .int .i64 x.f1, .string x.f2, .int .i64 x.f3] := rfl
      rw [hni]
      have hs2 := Aside0.mk (ws_string (m2.keep ((Below.refl _ _).alloc (Nat.le_refl _) (.cells #[.int .i64 x.f0, .int .i64 x.f1, .string x.f2, .int .i64 x.f3] 38))) ⟨#[93]⟩ (by rw [bsz1]; exact hz'.out))
      have HB2 := Aside0.mk (HB.out.trans (b2.trans (BK.of_below (by have := m2.base_le; omega) ((Below.refl _ _).alloc (Nat.le_refl _) (.cells #[.int .i64 x.f0, .int .i64 x.f1, .string x.f2, .int .i64 x.f3] 38)))))
      clear m2 b2 htk hni hx
      go_wp2_with fail
      refine hs2.out.mono ?_
      rintro e W3 ⟨rfl, m3, b3⟩
      have HF := Aside0.mk (And.intro m3 (HB2.out.trans b3))
      clear m3 b3 hs2
      go_wp2_with fail
      go_ret
      rw [HR.out]
      refine ⟨HF.out.2, rfl, ?_⟩
      rw [← List.append_assoc]
      exact HF.out.1
    · have h5' : ∀ x r, l = x :: r → x.f0 ≠ 5 := fun x r h hx => h5 ⟨x, r, h, hx⟩
      rw [pmany_more h5'] at hR
      have htk := Aside0.mk (take_no hws 5 h5')
      have HB := Aside0.mk hb
      have HR := Aside0.mk hR
      have HFN := Aside0.mk hf
      have HZ := Aside0.mk hz
      obtain ⟨scm, hscm⟩ : ∃ s, cm first = s := ⟨_, rfl⟩
      rw [hscm]
      have hsz := cm_size first
      have hsd := cm_data first
      rw [hscm] at hsz hsd
      replace hsd := Aside0.mk hsd
      clear hws hb hR hf hz h5 h5' hscm
      go_wp2_with fail
      refine htk.out.mono ?_
      rintro e W2 ⟨rfl, m2, b2⟩
      have hni : noIt = .agg #[.int .i64 0, .int .i64 0, .string ⟨#[]⟩, .int .i64 0] := rfl
      rw [hni]
      have hs2 := Aside0.mk (ws_string (m2.keep ((Below.refl _ _).alloc (Nat.le_refl _) (.cells #[.int .i64 0, .int .i64 0, .string ⟨#[]⟩, .int .i64 0] 38))) scm (by have := HZ.out; omega))
      have HB2 := Aside0.mk (HB.out.trans (b2.trans (BK.of_below (by have := m2.base_le; omega) ((Below.refl _ _).alloc (Nat.le_refl _) (.cells #[.int .i64 0, .int .i64 0, .string ⟨#[]⟩, .int .i64 0] 38)))))
      clear m2 b2 htk hni
      go_wp2_with fail
      refine hs2.out.mono ?_
      rintro e W3 ⟨rfl, m3, b3⟩
      rw [hsd.out] at m3
      have b3' := HB2.out.trans b3
      have hzz : ((bs ++ acc) ++ (if first then [] else [44])).length + Js.osz l ≤ 140737488355328 := by
        have := HZ.out
        cases first <;> simp only [List.length_append, List.length_cons, List.length_nil, if_true, if_false, Bool.false_eq_true] at this ⊢ <;> omega
      have hone := HO.out k l W3 ((bs ++ acc) ++ (if first then [] else [44])) hn (by omega) HFN.out hzz (HT.out.bk b3') (HV.out.bk b3') m3
      replace hone := Aside0.mk hone
      have HB3 := Aside0.mk b3'
      clear m3 b3 b3' hs2 hzz
      go_wp2_with fail
      refine hone.out.mono ?_
      intro e W4 h
      have HR2 := HR.out
      cases hp : Js.pone (Js.pval k (d + 1)) false l with
      | none =>
        rw [hp] at h HR2
        obtain ⟨b4, rfl⟩ := h
        have HF := Aside0.mk (And.intro (HB3.out.trans b4) HR2)
        clear b4 hone HR2 hp
        go_wp2_with fail
        go_ret
        rw [HF.out.2]
        exact ⟨HF.out.1, rfl⟩
      | some oo =>
        obtain ⟨o, r'⟩ := oo
        rw [hp] at h HR2
        simp only at HR2
        obtain ⟨b4, rfl, m4⟩ := h
        have hft := Js.pone_fits ((Js.fits_all k).1 (d + 1)) false l o r' hp
        have hN : MRel w n base wb p q d false bs R (.string (cm false)) W4 := by
          refine ⟨false, r', acc ++ ((if first then [] else [44]) ++ o), k, rfl, HB3.out.trans b4, ?_, ?_, by omega, by omega, HFN.out.suffix hft.2.1, ?_⟩
          · simp only [List.append_assoc] at m4 ⊢; exact m4
          · rw [HR2, pre_pre]
          · have := HZ.out
            cases first <;> simp only [List.length_append, List.length_cons, List.length_nil, if_true, if_false, Bool.false_eq_true] at this ⊢ <;> omega
        have hlt : lenAt wb W4 < l.length := by rw [m4.lenAt]; exact hft.2.2
        have HF := Aside0.mk (And.intro hN hlt)
        clear hN hlt b4 hone HR2 hp m4 hft
        go_wp2_with fail
        exact ⟨HF.out.1, by rw [HL.out]; exact HF.out.2⟩
set_option maxRecDepth 100000 in
set_option maxHeartbeats 4000000 in
theorem many_obj {n k d base wb p q : Nat} {l : List S38} {w : World} {bs : List UInt8} (hO : OC n true 34 d base wb p q) (hn : l.length ≤ n) (hk : 2 * l.length + 2 ≤ k) (hf : Fine l) (hz : bs.length + 1 + Js.osz l + 2 ≤ 140737488355328) (ht : TB base w) (hvb : VB w wb p q d) (hws : WS w base wb l bs) :
    Calls Tryd.prog 32 #[.pointer (some ⟨wb, 0, none⟩), .string ⟨#[123]⟩, .string ⟨#[125]⟩, .func (.func 34) #[] #[.pointer (some ⟨p, 0, none⟩), .pointer (some ⟨q, 0, none⟩)]] w fun e w' => PPost w base wb bs (Js.pre [123] (Js.pmany k d true true l)) e w' := by
  have hs := Aside0.mk (ws_string hws ⟨#[123]⟩ (by rw [bsz1]; omega))
  have HO := Aside0.mk hO
  have HT := Aside0.mk ht
  have HV := Aside0.mk hvb
  have HFN := Aside0.mk hf
  obtain ⟨R, hR⟩ : ∃ R, Js.pre [123] (Js.pmany k d true true l) = R := ⟨_, rfl⟩
  rw [hR]
  have HR := Aside0.mk hR
  replace hz := Aside0.mk hz
  clear hO ht hvb hf hR
  go_enter Tryd.func32, Tryd.ntmps32
  go_wp2_with fail
  refine hs.out.mono ?_
  rintro e W1 ⟨rfl, m1, b1⟩
  have HM := Aside0.mk (And.intro m1 b1)
  clear m1 b1 hs hws
  go_wp2_with fail
  go_loopw [9] (fun t9 wr => MRel w n base wb p q d true bs R t9 wr) (fun _ wr => lenAt wb wr)
  case atStart =>
    exact ⟨true, l, [123], k, rfl, HM.out.2, HM.out.1, HR.out.symm, hn, hk, HFN.out, by have := hz.out; simp only [List.length_append, List.length_cons, List.length_nil]; omega⟩
  case round =>
    clear HM HFN hz HR hn hk
    obtain ⟨first, l, acc, k, rfl, hb, hws, hR, hn, hk, hf, hz⟩ := hrel
    have HL : Aside0 (lenAt wb wr = l.length) := ⟨hws.lenAt⟩
    obtain ⟨k, rfl⟩ : ∃ k', k = k' + 1 := ⟨k - 1, by omega⟩
    have hbs := hws.base_le
    by_cases h5 : ∃ x r, l = x :: r ∧ x.f0 = 5
    · obtain ⟨x, r, rfl, hx⟩ := h5
      rw [pmany_end hx] at hR
      have htk := Aside0.mk (take_yes hws 5 hx)
      have HB := Aside0.mk hb
      have HR := Aside0.mk hR
      have hz' : (bs ++ acc).length + 1 ≤ 140737488355328 := by omega
      replace hz' := Aside0.mk hz'
      clear hws hb hR hf hz hn hk
      go_wp2_with fail
      refine htk.out.mono ?_
      rintro e W2 ⟨rfl, m2, b2⟩
      have hni : it x = .agg #[.int .i64 x.f0, .int .i64 x.f1, .string x.f2, .int .i64 x.f3] := rfl
      rw [hni]
      have hs2 := Aside0.mk (ws_string (m2.keep ((Below.refl _ _).alloc (Nat.le_refl _) (.cells #[.int .i64 x.f0, .int .i64 x.f1, .string x.f2, .int .i64 x.f3] 38))) ⟨#[125]⟩ (by rw [bsz1]; exact hz'.out))
      have HB2 := Aside0.mk (HB.out.trans (b2.trans (BK.of_below (by have := m2.base_le; omega) ((Below.refl _ _).alloc (Nat.le_refl _) (.cells #[.int .i64 x.f0, .int .i64 x.f1, .string x.f2, .int .i64 x.f3] 38)))))
      clear m2 b2 htk hni hx
      go_wp2_with fail
      refine hs2.out.mono ?_
      rintro e W3 ⟨rfl, m3, b3⟩
      have HF := Aside0.mk (And.intro m3 (HB2.out.trans b3))
      clear m3 b3 hs2
      go_wp2_with fail
      go_ret
      rw [HR.out]
      refine ⟨HF.out.2, rfl, ?_⟩
      rw [← List.append_assoc]
      exact HF.out.1
    · have h5' : ∀ x r, l = x :: r → x.f0 ≠ 5 := fun x r h hx => h5 ⟨x, r, h, hx⟩
      rw [pmany_more h5'] at hR
      have htk := Aside0.mk (take_no hws 5 h5')
      have HB := Aside0.mk hb
      have HR := Aside0.mk hR
      have HFN := Aside0.mk hf
      have HZ := Aside0.mk hz
      obtain ⟨scm, hscm⟩ : ∃ s, cm first = s := ⟨_, rfl⟩
      rw [hscm]
      have hsz := cm_size first
      have hsd := cm_data first
      rw [hscm] at hsz hsd
      replace hsd := Aside0.mk hsd
      clear hws hb hR hf hz h5 h5' hscm
      go_wp2_with fail
      refine htk.out.mono ?_
      rintro e W2 ⟨rfl, m2, b2⟩
      have hni : noIt = .agg #[.int .i64 0, .int .i64 0, .string ⟨#[]⟩, .int .i64 0] := rfl
      rw [hni]
      have hs2 := Aside0.mk (ws_string (m2.keep ((Below.refl _ _).alloc (Nat.le_refl _) (.cells #[.int .i64 0, .int .i64 0, .string ⟨#[]⟩, .int .i64 0] 38))) scm (by have := HZ.out; omega))
      have HB2 := Aside0.mk (HB.out.trans (b2.trans (BK.of_below (by have := m2.base_le; omega) ((Below.refl _ _).alloc (Nat.le_refl _) (.cells #[.int .i64 0, .int .i64 0, .string ⟨#[]⟩, .int .i64 0] 38)))))
      clear m2 b2 htk hni
      go_wp2_with fail
      refine hs2.out.mono ?_
      rintro e W3 ⟨rfl, m3, b3⟩
      rw [hsd.out] at m3
      have b3' := HB2.out.trans b3
      have hzz : ((bs ++ acc) ++ (if first then [] else [44])).length + Js.osz l ≤ 140737488355328 := by
        have := HZ.out
        cases first <;> simp only [List.length_append, List.length_cons, List.length_nil, if_true, if_false, Bool.false_eq_true] at this ⊢ <;> omega
      have hone := HO.out k l W3 ((bs ++ acc) ++ (if first then [] else [44])) hn (by omega) HFN.out hzz (HT.out.bk b3') (HV.out.bk b3') m3
      replace hone := Aside0.mk hone
      have HB3 := Aside0.mk b3'
      clear m3 b3 b3' hs2 hzz
      go_wp2_with fail
      refine hone.out.mono ?_
      intro e W4 h
      have HR2 := HR.out
      cases hp : Js.pone (Js.pval k (d + 1)) true l with
      | none =>
        rw [hp] at h HR2
        obtain ⟨b4, rfl⟩ := h
        have HF := Aside0.mk (And.intro (HB3.out.trans b4) HR2)
        clear b4 hone HR2 hp
        go_wp2_with fail
        go_ret
        rw [HF.out.2]
        exact ⟨HF.out.1, rfl⟩
      | some oo =>
        obtain ⟨o, r'⟩ := oo
        rw [hp] at h HR2
        simp only at HR2
        obtain ⟨b4, rfl, m4⟩ := h
        have hft := Js.pone_fits ((Js.fits_all k).1 (d + 1)) true l o r' hp
        have hN : MRel w n base wb p q d true bs R (.string (cm false)) W4 := by
          refine ⟨false, r', acc ++ ((if first then [] else [44]) ++ o), k, rfl, HB3.out.trans b4, ?_, ?_, by omega, by omega, HFN.out.suffix hft.2.1, ?_⟩
          · simp only [List.append_assoc] at m4 ⊢; exact m4
          · rw [HR2, pre_pre]
          · have := HZ.out
            cases first <;> simp only [List.length_append, List.length_cons, List.length_nil, if_true, if_false, Bool.false_eq_true] at this ⊢ <;> omega
        have hlt : lenAt wb W4 < l.length := by rw [m4.lenAt]; exact hft.2.2
        have HF := Aside0.mk (And.intro hN hlt)
        clear hN hlt b4 hone HR2 hp m4 hft
        go_wp2_with fail
        exact ⟨HF.out.1, by rw [HL.out]; exact HF.out.2⟩
end Go.Proofs.YtainnkpoibgkcaaDoor
namespace Go.Proofs.YtainnkpoibgkcaaDoor
set_option linter.unusedVariables false
set_option linter.unusedSimpArgs false
open Go.RowKit Go.Proofs.YtainnkpoibgkcaaDoor.PAll Go.Proofs.YtainnkpoibgkcaaDoorW.PrintWords Go.Proofs.YtainnkpoibgkcaaDoorW.PrintLast

def W0 (w : World) (wb d : Nat) : World := (w.alloc (.cells #[.pointer (some ⟨wb, 0, none⟩)] 46)).alloc (.cells #[.int .i64 d] 3)
theorem v_start {w : World} {base wb : Nat} {l : List S38} {bs : List UInt8} (h : WS w base wb l bs) (d : Nat) : WS (W0 w wb d) base wb l bs ∧ VB (W0 w wb d) wb w.heap.size (w.heap.size + 1) d ∧ BK base wb w (W0 w wb d) := by
  have hb := h.base_le
  have hB : Below w.heap.size w (W0 w wb d) := ((Below.refl _ _).alloc (Nat.le_refl _) _).alloc (by simp) _
  refine ⟨h.keep hB, ⟨by omega, by omega, ?_, ?_⟩, BK.of_below (by omega) hB⟩
  · unfold W0
    rw [Below.heap_alloc _ _ _ (by simp)]
    exact Array.getElem?_push_size
  · unfold W0
    have : (w.alloc (.cells #[.pointer (some ⟨wb, 0, none⟩)] 46)).heap.size = w.heap.size + 1 := by simp
    rw [← this]
    exact Array.getElem?_push_size
set_option maxRecDepth 100000 in
set_option maxHeartbeats 4000000 in
theorem v_none {k d base wb : Nat} {l : List S38} {w : World} {bs : List UInt8} (hws : WS w base wb l bs) (h1 : ∀ x r, l = x :: r → x.f0 ≠ 1) (h2 : ∀ x r, l = x :: r → x.f0 ≠ 2) (h3 : ∀ x r, l = x :: r → x.f0 ≠ 3) (h4 : ∀ x r, l = x :: r → x.f0 ≠ 4) (hd : d < 16) :
    Calls Tryd.prog 18 #[.pointer (some ⟨wb, 0, none⟩), .int .i64 d] w fun e w' => PPost w base wb bs (none) e w' := by
  obtain ⟨m0, v0, b0⟩ := v_start hws d
  have hd' : ((d : Int) == 16) = false := by simp; omega
  have H1 := Aside0.mk (And.intro h2 (And.intro h3 h4))
  have tk := Aside0.mk (take_no m0 1 h1)
  have c0 := v0.cp
  have c1 := v0.cq
  have HV := Aside0.mk v0
  have HB := Aside0.mk b0
  have hws0 := Aside0.mk hws
  clear m0 v0 b0 hws
  unfold W0 at tk c0 c1 HV HB
  go_enter Tryd.func18, Tryd.ntmps18
  go_wp2_with fail
  refine tk.out.mono ?_
  rintro e W1 ⟨rfl, m, b⟩
  have hni : noIt = .agg #[.int .i64 0, .int .i64 0, .string ⟨#[]⟩, .int .i64 0] := rfl
  rw [hni]
  have bb := b.trans (BK.of_below (by have := m.base_le; omega) ((Below.refl _ _).alloc (Nat.le_refl _) (.cells #[.int .i64 0, .int .i64 0, .string ⟨#[]⟩, .int .i64 0] 38)))
  have m1 := m.keep ((Below.refl _ _).alloc (Nat.le_refl _) (.cells #[.int .i64 0, .int .i64 0, .string ⟨#[]⟩, .int .i64 0] 38))
  replace HV := Aside0.mk (HV.out.bk bb)
  replace HB := Aside0.mk (HB.out.trans bb)
  replace c0 := HV.out.cp
  replace c1 := HV.out.cq
  replace tk := Aside0.mk (take_no m1 2 h2)
  clear m b bb m1 hni
  go_wp2_with fail
  refine tk.out.mono ?_
  rintro e W2 ⟨rfl, m, b⟩
  have hni : noIt = .agg #[.int .i64 0, .int .i64 0, .string ⟨#[]⟩, .int .i64 0] := rfl
  rw [hni]
  have bb := b.trans (BK.of_below (by have := m.base_le; omega) ((Below.refl _ _).alloc (Nat.le_refl _) (.cells #[.int .i64 0, .int .i64 0, .string ⟨#[]⟩, .int .i64 0] 38)))
  have m2 := m.keep ((Below.refl _ _).alloc (Nat.le_refl _) (.cells #[.int .i64 0, .int .i64 0, .string ⟨#[]⟩, .int .i64 0] 38))
  replace HV := Aside0.mk (HV.out.bk bb)
  replace HB := Aside0.mk (HB.out.trans bb)
  replace c0 := HV.out.cp
  replace c1 := HV.out.cq
  replace tk := Aside0.mk (take_no m2 3 h3)
  clear m b bb m2 hni
  go_wp2_with fail
  refine tk.out.mono ?_
  rintro e W3 ⟨rfl, m, b⟩
  have hni : noIt = .agg #[.int .i64 0, .int .i64 0, .string ⟨#[]⟩, .int .i64 0] := rfl
  rw [hni]
  have bb := b.trans (BK.of_below (by have := m.base_le; omega) ((Below.refl _ _).alloc (Nat.le_refl _) (.cells #[.int .i64 0, .int .i64 0, .string ⟨#[]⟩, .int .i64 0] 38)))
  have m3 := m.keep ((Below.refl _ _).alloc (Nat.le_refl _) (.cells #[.int .i64 0, .int .i64 0, .string ⟨#[]⟩, .int .i64 0] 38))
  replace HV := Aside0.mk (HV.out.bk bb)
  replace HB := Aside0.mk (HB.out.trans bb)
  replace c0 := HV.out.cp
  replace c1 := HV.out.cq
  replace tk := Aside0.mk (take_no m3 4 h4)
  clear m b bb m3 hni
  go_wp2_with fail
  refine tk.out.mono ?_
  rintro e W4 ⟨rfl, m, b⟩
  have hni : noIt = .agg #[.int .i64 0, .int .i64 0, .string ⟨#[]⟩, .int .i64 0] := rfl
  rw [hni]
  have bb := b.trans (BK.of_below (by have := m.base_le; omega) ((Below.refl _ _).alloc (Nat.le_refl _) (.cells #[.int .i64 0, .int .i64 0, .string ⟨#[]⟩, .int .i64 0] 38)))
  have m4 := m.keep ((Below.refl _ _).alloc (Nat.le_refl _) (.cells #[.int .i64 0, .int .i64 0, .string ⟨#[]⟩, .int .i64 0] 38))
  replace HV := Aside0.mk (HV.out.bk bb)
  replace HB := Aside0.mk (HB.out.trans bb)
  replace c0 := HV.out.cp
  replace c1 := HV.out.cq
  replace m4 := Aside0.mk m4
  have b1w := Aside0.mk m.base_le.2
  clear m b bb hni tk
  go_wp2_with fail
  go_ret
  exact ⟨HB.out, rfl⟩
set_option maxRecDepth 100000 in
set_option maxHeartbeats 4000000 in
theorem v_deep {k base wb d : Nat} {l : List S38} {w : World} {bs : List UInt8} (hd : d = 16) (hws : WS w base wb l bs) (h1 : ∀ x r, l = x :: r → x.f0 ≠ 1) (h2 : ∀ x r, l = x :: r → x.f0 ≠ 2) :
    Calls Tryd.prog 18 #[.pointer (some ⟨wb, 0, none⟩), .int .i64 d] w fun e w' => PPost w base wb bs (none) e w' := by
  obtain ⟨m0, v0, b0⟩ := v_start hws d
  have hd' : ((d : Int) == 16) = true := by simp; omega
  clear hd
  have tk := Aside0.mk (take_no m0 1 h1)
  have c0 := v0.cp
  have c1 := v0.cq
  have HV := Aside0.mk v0
  have HB := Aside0.mk b0
  have hws0 := Aside0.mk hws
  clear m0 v0 b0 hws
  unfold W0 at tk c0 c1 HV HB
  go_enter Tryd.func18, Tryd.ntmps18
  go_wp2_with fail
  refine tk.out.mono ?_
  rintro e W1 ⟨rfl, m, b⟩
  have hni : noIt = .agg #[.int .i64 0, .int .i64 0, .string ⟨#[]⟩, .int .i64 0] := rfl
  rw [hni]
  have bb := b.trans (BK.of_below (by have := m.base_le; omega) ((Below.refl _ _).alloc (Nat.le_refl _) (.cells #[.int .i64 0, .int .i64 0, .string ⟨#[]⟩, .int .i64 0] 38)))
  have m1 := m.keep ((Below.refl _ _).alloc (Nat.le_refl _) (.cells #[.int .i64 0, .int .i64 0, .string ⟨#[]⟩, .int .i64 0] 38))
  replace HV := Aside0.mk (HV.out.bk bb)
  replace HB := Aside0.mk (HB.out.trans bb)
  replace c0 := HV.out.cp
  replace c1 := HV.out.cq
  replace tk := Aside0.mk (take_no m1 2 h2)
  clear m b bb m1 hni
  go_wp2_with fail
  refine tk.out.mono ?_
  rintro e W2 ⟨rfl, m, b⟩
  have hni : noIt = .agg #[.int .i64 0, .int .i64 0, .string ⟨#[]⟩, .int .i64 0] := rfl
  rw [hni]
  have bb := b.trans (BK.of_below (by have := m.base_le; omega) ((Below.refl _ _).alloc (Nat.le_refl _) (.cells #[.int .i64 0, .int .i64 0, .string ⟨#[]⟩, .int .i64 0] 38)))
  have m2 := m.keep ((Below.refl _ _).alloc (Nat.le_refl _) (.cells #[.int .i64 0, .int .i64 0, .string ⟨#[]⟩, .int .i64 0] 38))
  replace HV := Aside0.mk (HV.out.bk bb)
  replace HB := Aside0.mk (HB.out.trans bb)
  replace c0 := HV.out.cp
  replace c1 := HV.out.cq
  replace m2 := Aside0.mk m2
  have b1w := Aside0.mk m.base_le.2
  clear m b bb hni tk
  go_wp2_with fail
  go_ret
  exact ⟨HB.out, rfl⟩
set_option maxRecDepth 100000 in
set_option maxHeartbeats 4000000 in
theorem v_text {k d base wb : Nat} {x : S38} {r : List S38} {w : World} {bs : List UInt8} (hx : x.f0 = 2) (hs : x.f2.size ≤ 1000000000) (hz : bs.length + (6 * x.f2.size + 2) ≤ 140737488355328) (hws : WS w base wb (x :: r) bs) :
    Calls Tryd.prog 18 #[.pointer (some ⟨wb, 0, none⟩), .int .i64 d] w fun e w' => PPost w base wb bs (Js.pq x r) e w' := by
  obtain ⟨m0, v0, b0⟩ := v_start hws d
  have h1 : ∀ y s, x :: r = y :: s → y.f0 ≠ 1 := fun y s h e => by cases h; omega
  have HX := Aside0.mk hx
  clear hx
  have tk := Aside0.mk (take_no m0 1 h1)
  have c0 := v0.cp
  have c1 := v0.cq
  have HV := Aside0.mk v0
  have HB := Aside0.mk b0
  have hws0 := Aside0.mk hws
  clear m0 v0 b0 hws
  unfold W0 at tk c0 c1 HV HB
  go_enter Tryd.func18, Tryd.ntmps18
  go_wp2_with fail
  refine tk.out.mono ?_
  rintro e W1 ⟨rfl, m, b⟩
  have hni : noIt = .agg #[.int .i64 0, .int .i64 0, .string ⟨#[]⟩, .int .i64 0] := rfl
  rw [hni]
  have bb := b.trans (BK.of_below (by have := m.base_le; omega) ((Below.refl _ _).alloc (Nat.le_refl _) (.cells #[.int .i64 0, .int .i64 0, .string ⟨#[]⟩, .int .i64 0] 38)))
  have m1 := m.keep ((Below.refl _ _).alloc (Nat.le_refl _) (.cells #[.int .i64 0, .int .i64 0, .string ⟨#[]⟩, .int .i64 0] 38))
  replace HV := Aside0.mk (HV.out.bk bb)
  replace HB := Aside0.mk (HB.out.trans bb)
  replace c0 := HV.out.cp
  replace c1 := HV.out.cq
  replace tk := Aside0.mk (take_yes m1 2 HX.out)
  clear m b bb m1 hni
  go_wp2_with fail
  refine tk.out.mono ?_
  rintro e W2 ⟨rfl, m, b⟩
  have hni : it x = .agg #[.int .i64 x.f0, .int .i64 x.f1, .string x.f2, .int .i64 x.f3] := rfl
  rw [hni]
  have bb := b.trans (BK.of_below (by have := m.base_le; omega) ((Below.refl _ _).alloc (Nat.le_refl _) (.cells #[.int .i64 x.f0, .int .i64 x.f1, .string x.f2, .int .i64 x.f3] 38)))
  have m2 := m.keep ((Below.refl _ _).alloc (Nat.le_refl _) (.cells #[.int .i64 x.f0, .int .i64 x.f1, .string x.f2, .int .i64 x.f3] 38))
  replace HV := Aside0.mk (HV.out.bk bb)
  replace HB := Aside0.mk (HB.out.trans bb)
  replace c0 := HV.out.cp
  replace c1 := HV.out.cq
  replace m2 := Aside0.mk m2
  have b1w := Aside0.mk m.base_le.2
  clear m b bb hni tk
  have hqd := Aside0.mk (quoted_walk m2.out x.f2 hs hz)
  go_wp2_with fail
  refine hqd.out.mono ?_
  rintro e W9 ⟨b9, hh⟩
  cases hq : Js.quote x.f2.data.toList with
  | none =>
    rw [hq] at hh
    simp only at hh
    subst hh
    have HF := Aside0.mk (HB.out.trans b9)
    have hpq : Aside0 (Js.pq x r = none) := ⟨by unfold Js.pq; rw [hq]⟩
    clear b9 hqd m2 hq
    go_wp2_with fail
    go_ret
    rw [hpq.out]
    exact ⟨HF.out, rfl⟩
  | some q =>
    rw [hq] at hh
    obtain ⟨rfl, m9⟩ := hh
    have HF := Aside0.mk (And.intro m9 (HB.out.trans b9))
    have hpq : Aside0 (Js.pq x r = some (q, r)) := ⟨by unfold Js.pq; rw [hq]⟩
    clear b9 m9 hqd m2 hq
    go_wp2_with fail
    go_ret
    rw [hpq.out]
    exact ⟨HF.out.2, rfl, HF.out.1⟩
set_option maxRecDepth 100000 in
set_option maxHeartbeats 4000000 in
theorem v_list {n k d base wb : Nat} {x : S38} {r : List S38} {w : World} {bs : List UInt8} (hd : d < 16) (hx : x.f0 = 3) (hO : OC n false 33 d base wb w.heap.size (w.heap.size + 1)) (hn : r.length ≤ n) (hk : 2 * r.length + 2 ≤ k) (hf : Fine r) (hz : bs.length + 1 + Js.osz r + 2 ≤ 140737488355328) (ht : TB base w) (hws : WS w base wb (x :: r) bs) :
    Calls Tryd.prog 18 #[.pointer (some ⟨wb, 0, none⟩), .int .i64 d] w fun e w' => PPost w base wb bs (Js.pre [91] (Js.pmany k d false true r)) e w' := by
  obtain ⟨m0, v0, b0⟩ := v_start hws d
  have h1 : ∀ y s, x :: r = y :: s → y.f0 ≠ 1 := fun y s h e => by cases h; omega
  have h2 : ∀ y s, x :: r = y :: s → y.f0 ≠ 2 := fun y s h e => by cases h; omega
  have HX := Aside0.mk hx
  clear hx
  have hd' : ((d : Int) == 16) = false := by simp; omega
  have HO := Aside0.mk hO
  have HT := Aside0.mk ht
  have HFN := Aside0.mk hf
  have hmf : ∀ (fn : Fn) (first cap : Array Value) (w : World), (Instr.makeFunc fn first cap).run Tryd.prog w = .ok (.func fn first cap) w := fun _ _ _ _ => rfl
  clear hO ht hf
  have tk := Aside0.mk (take_no m0 1 h1)
  have c0 := v0.cp
  have c1 := v0.cq
  have HV := Aside0.mk v0
  have HB := Aside0.mk b0
  have hws0 := Aside0.mk hws
  clear m0 v0 b0 hws
  unfold W0 at tk c0 c1 HV HB
  go_enter Tryd.func18, Tryd.ntmps18
  go_wp2_with fail
  refine tk.out.mono ?_
  rintro e W1 ⟨rfl, m, b⟩
  have hni : noIt = .agg #[.int .i64 0, .int .i64 0, .string ⟨#[]⟩, .int .i64 0] := rfl
  rw [hni]
  have bb := b.trans (BK.of_below (by have := m.base_le; omega) ((Below.refl _ _).alloc (Nat.le_refl _) (.cells #[.int .i64 0, .int .i64 0, .string ⟨#[]⟩, .int .i64 0] 38)))
  have m1 := m.keep ((Below.refl _ _).alloc (Nat.le_refl _) (.cells #[.int .i64 0, .int .i64 0, .string ⟨#[]⟩, .int .i64 0] 38))
  replace HV := Aside0.mk (HV.out.bk bb)
  replace HB := Aside0.mk (HB.out.trans bb)
  replace c0 := HV.out.cp
  replace c1 := HV.out.cq
  replace tk := Aside0.mk (take_no m1 2 h2)
  clear m b bb m1 hni
  go_wp2_with fail
  refine tk.out.mono ?_
  rintro e W2 ⟨rfl, m, b⟩
  have hni : noIt = .agg #[.int .i64 0, .int .i64 0, .string ⟨#[]⟩, .int .i64 0] := rfl
  rw [hni]
  have bb := b.trans (BK.of_below (by have := m.base_le; omega) ((Below.refl _ _).alloc (Nat.le_refl _) (.cells #[.int .i64 0, .int .i64 0, .string ⟨#[]⟩, .int .i64 0] 38)))
  have m2 := m.keep ((Below.refl _ _).alloc (Nat.le_refl _) (.cells #[.int .i64 0, .int .i64 0, .string ⟨#[]⟩, .int .i64 0] 38))
  replace HV := Aside0.mk (HV.out.bk bb)
  replace HB := Aside0.mk (HB.out.trans bb)
  replace c0 := HV.out.cp
  replace c1 := HV.out.cq
  replace tk := Aside0.mk (take_yes m2 3 HX.out)
  clear m b bb m2 hni
  go_wp2_with fail
  refine tk.out.mono ?_
  rintro e W3 ⟨rfl, m, b⟩
  have hni : it x = .agg #[.int .i64 x.f0, .int .i64 x.f1, .string x.f2, .int .i64 x.f3] := rfl
  rw [hni]
  have bb := b.trans (BK.of_below (by have := m.base_le; omega) ((Below.refl _ _).alloc (Nat.le_refl _) (.cells #[.int .i64 x.f0, .int .i64 x.f1, .string x.f2, .int .i64 x.f3] 38)))
  have m3 := m.keep ((Below.refl _ _).alloc (Nat.le_refl _) (.cells #[.int .i64 x.f0, .int .i64 x.f1, .string x.f2, .int .i64 x.f3] 38))
  replace HV := Aside0.mk (HV.out.bk bb)
  replace HB := Aside0.mk (HB.out.trans bb)
  replace c0 := HV.out.cp
  replace c1 := HV.out.cq
  replace m3 := Aside0.mk m3
  have b1w := Aside0.mk m.base_le.2
  clear m b bb hni tk
  have hm := Aside0.mk (many_list HO.out hn hk HFN.out hz (HT.out.bk HB.out) HV.out m3.out)
  clear hn hk hz
  go_wp2_with fail
  refine hm.out.mono ?_
  rintro e W9 h
  obtain ⟨b, rfl, h⟩ := h.ret
  have HF := Aside0.mk (h.from HB.out)
  clear h hm
  go_wp2_with fail
  go_ret
  exact HF.out
set_option maxRecDepth 100000 in
set_option maxHeartbeats 4000000 in
theorem v_obj {n k d base wb : Nat} {x : S38} {r : List S38} {w : World} {bs : List UInt8} (hd : d < 16) (hx : x.f0 = 4) (hO : OC n true 34 d base wb w.heap.size (w.heap.size + 1)) (hn : r.length ≤ n) (hk : 2 * r.length + 2 ≤ k) (hf : Fine r) (hz : bs.length + 1 + Js.osz r + 2 ≤ 140737488355328) (ht : TB base w) (hws : WS w base wb (x :: r) bs) :
    Calls Tryd.prog 18 #[.pointer (some ⟨wb, 0, none⟩), .int .i64 d] w fun e w' => PPost w base wb bs (Js.pre [123] (Js.pmany k d true true r)) e w' := by
  obtain ⟨m0, v0, b0⟩ := v_start hws d
  have h1 : ∀ y s, x :: r = y :: s → y.f0 ≠ 1 := fun y s h e => by cases h; omega
  have h2 : ∀ y s, x :: r = y :: s → y.f0 ≠ 2 := fun y s h e => by cases h; omega
  have h3 : ∀ y s, x :: r = y :: s → y.f0 ≠ 3 := fun y s h e => by cases h; omega
  have HX := Aside0.mk hx
  clear hx
  have hd' : ((d : Int) == 16) = false := by simp; omega
  have HO := Aside0.mk hO
  have HT := Aside0.mk ht
  have HFN := Aside0.mk hf
  have hmf : ∀ (fn : Fn) (first cap : Array Value) (w : World), (Instr.makeFunc fn first cap).run Tryd.prog w = .ok (.func fn first cap) w := fun _ _ _ _ => rfl
  clear hO ht hf
  have tk := Aside0.mk (take_no m0 1 h1)
  have c0 := v0.cp
  have c1 := v0.cq
  have HV := Aside0.mk v0
  have HB := Aside0.mk b0
  have hws0 := Aside0.mk hws
  clear m0 v0 b0 hws
  unfold W0 at tk c0 c1 HV HB
  go_enter Tryd.func18, Tryd.ntmps18
  go_wp2_with fail
  refine tk.out.mono ?_
  rintro e W1 ⟨rfl, m, b⟩
  have hni : noIt = .agg #[.int .i64 0, .int .i64 0, .string ⟨#[]⟩, .int .i64 0] := rfl
  rw [hni]
  have bb := b.trans (BK.of_below (by have := m.base_le; omega) ((Below.refl _ _).alloc (Nat.le_refl _) (.cells #[.int .i64 0, .int .i64 0, .string ⟨#[]⟩, .int .i64 0] 38)))
  have m1 := m.keep ((Below.refl _ _).alloc (Nat.le_refl _) (.cells #[.int .i64 0, .int .i64 0, .string ⟨#[]⟩, .int .i64 0] 38))
  replace HV := Aside0.mk (HV.out.bk bb)
  replace HB := Aside0.mk (HB.out.trans bb)
  replace c0 := HV.out.cp
  replace c1 := HV.out.cq
  replace tk := Aside0.mk (take_no m1 2 h2)
  clear m b bb m1 hni
  go_wp2_with fail
  refine tk.out.mono ?_
  rintro e W2 ⟨rfl, m, b⟩
  have hni : noIt = .agg #[.int .i64 0, .int .i64 0, .string ⟨#[]⟩, .int .i64 0] := rfl
  rw [hni]
  have bb := b.trans (BK.of_below (by have := m.base_le; omega) ((Below.refl _ _).alloc (Nat.le_refl _) (.cells #[.int .i64 0, .int .i64 0, .string ⟨#[]⟩, .int .i64 0] 38)))
  have m2 := m.keep ((Below.refl _ _).alloc (Nat.le_refl _) (.cells #[.int .i64 0, .int .i64 0, .string ⟨#[]⟩, .int .i64 0] 38))
  replace HV := Aside0.mk (HV.out.bk bb)
  replace HB := Aside0.mk (HB.out.trans bb)
  replace c0 := HV.out.cp
  replace c1 := HV.out.cq
  replace tk := Aside0.mk (take_no m2 3 h3)
  clear m b bb m2 hni
  go_wp2_with fail
  refine tk.out.mono ?_
  rintro e W3 ⟨rfl, m, b⟩
  have hni : noIt = .agg #[.int .i64 0, .int .i64 0, .string ⟨#[]⟩, .int .i64 0] := rfl
  rw [hni]
  have bb := b.trans (BK.of_below (by have := m.base_le; omega) ((Below.refl _ _).alloc (Nat.le_refl _) (.cells #[.int .i64 0, .int .i64 0, .string ⟨#[]⟩, .int .i64 0] 38)))
  have m3 := m.keep ((Below.refl _ _).alloc (Nat.le_refl _) (.cells #[.int .i64 0, .int .i64 0, .string ⟨#[]⟩, .int .i64 0] 38))
  replace HV := Aside0.mk (HV.out.bk bb)
  replace HB := Aside0.mk (HB.out.trans bb)
  replace c0 := HV.out.cp
  replace c1 := HV.out.cq
  replace tk := Aside0.mk (take_yes m3 4 HX.out)
  clear m b bb m3 hni
  go_wp2_with fail
  refine tk.out.mono ?_
  rintro e W4 ⟨rfl, m, b⟩
  have hni : it x = .agg #[.int .i64 x.f0, .int .i64 x.f1, .string x.f2, .int .i64 x.f3] := rfl
  rw [hni]
  have bb := b.trans (BK.of_below (by have := m.base_le; omega) ((Below.refl _ _).alloc (Nat.le_refl _) (.cells #[.int .i64 x.f0, .int .i64 x.f1, .string x.f2, .int .i64 x.f3] 38)))
  have m4 := m.keep ((Below.refl _ _).alloc (Nat.le_refl _) (.cells #[.int .i64 x.f0, .int .i64 x.f1, .string x.f2, .int .i64 x.f3] 38))
  replace HV := Aside0.mk (HV.out.bk bb)
  replace HB := Aside0.mk (HB.out.trans bb)
  replace c0 := HV.out.cp
  replace c1 := HV.out.cq
  replace m4 := Aside0.mk m4
  have b1w := Aside0.mk m.base_le.2
  clear m b bb hni tk
  have hm := Aside0.mk (many_obj HO.out hn hk HFN.out hz (HT.out.bk HB.out) HV.out m4.out)
  clear hn hk hz
  go_wp2_with fail
  refine hm.out.mono ?_
  rintro e W9 h
  obtain ⟨b, rfl, h⟩ := h.ret
  have HF := Aside0.mk (h.from HB.out)
  clear h hm
  go_wp2_with fail
  go_ret
  exact HF.out
set_option maxRecDepth 100000 in
set_option maxHeartbeats 4000000 in
theorem v_num {k d base wb : Nat} {x : S38} {r : List S38} {w : World} {bs : List UInt8} (hx : x.f0 = 1) (h0 : -9223372036854775808 ≤ x.f1) (h1 : x.f1 ≤ 9223372036854775807) (hz : bs.length + 30 ≤ 140737488355328) (ht : TB base w) (hws : WS w base wb (x :: r) bs) :
    Calls Tryd.prog 18 #[.pointer (some ⟨wb, 0, none⟩), .int .i64 d] w fun e w' => PPost w base wb bs (if -100000000 ≤ x.f1 ∧ x.f1 ≤ 100000000 then some (Lib.itoa x.f1, r) else none) e w' := by
  obtain ⟨m0, v0, b0⟩ := v_start hws d
  have HT := Aside0.mk ht
  have hzz : Aside0 (bs.length + (Lib.itoa x.f1).length ≤ 140737488355328) := ⟨by have := Lib.itoa_length_le x.f1 h0 h1; omega⟩
  clear ht
  have tk := Aside0.mk (take_yes m0 1 hx)
  have c0 := v0.cp
  have c1 := v0.cq
  have HV := Aside0.mk v0
  have HB := Aside0.mk b0
  have hws0 := Aside0.mk hws
  clear m0 v0 b0 hws
  unfold W0 at tk c0 c1 HV HB
  go_enter Tryd.func18, Tryd.ntmps18
  go_wp2_with fail
  refine tk.out.mono ?_
  rintro e W1 ⟨rfl, m, b⟩
  have hni : it x = .agg #[.int .i64 x.f0, .int .i64 x.f1, .string x.f2, .int .i64 x.f3] := rfl
  rw [hni]
  have bb := b.trans (BK.of_below (by have := m.base_le; omega) ((Below.refl _ _).alloc (Nat.le_refl _) (.cells #[.int .i64 x.f0, .int .i64 x.f1, .string x.f2, .int .i64 x.f3] 38)))
  have m1 := m.keep ((Below.refl _ _).alloc (Nat.le_refl _) (.cells #[.int .i64 x.f0, .int .i64 x.f1, .string x.f2, .int .i64 x.f3] 38))
  replace HV := Aside0.mk (HV.out.bk bb)
  replace HB := Aside0.mk (HB.out.trans bb)
  replace c0 := HV.out.cp
  replace c1 := HV.out.cq
  replace m1 := Aside0.mk m1
  have b1w := Aside0.mk m.base_le.2
  clear m b bb hni tk
  have ci : (W1.alloc (.cells #[.int .i64 x.f0, .int .i64 x.f1, .string x.f2, .int .i64 x.f3] 38)).cell? ⟨W1.heap.size, 1, none⟩ = some (.int .i64 x.f1) := by simp
  have hne : Aside0 (W1.heap.size ≠ wb) := ⟨by have := b1w.out; omega⟩
  have hit := Aside0.mk (itoa_calls x.f1 h0 h1 ((W1.alloc (.cells #[.int .i64 x.f0, .int .i64 x.f1, .string x.f2, .int .i64 x.f3] 38)).drew) (HT.out _ (HB.out.1.drew)))
  clear h0 h1 hx
  go_wp2_with fail
  refine start_ (n := 7) (S := fun w' => w'.cell? ⟨w.heap.size, 0, none⟩ = some (.pointer (some ⟨wb, 0, none⟩)) ∧ w'.cell? ⟨W1.heap.size, 1, none⟩ = some (.int .i64 x.f1)) (ds := [6]) #[false, false, false, false, false, false, false] (by kernel_rfl) rfl rfl ⟨c0, ci⟩ (fun hHeld => ?_)
  refine pure_ (i := 3) (N := some 22) (v := ?_) (a' := ?_) #[false, false, false, true, false, false, false] rfl rfl (by kernel_rfl) (fun _ _ _ h => h) (Or.inl ⟨by rfl, ?_⟩) ?_ ?_
  rotate_left
  · intro w'
    go_simp
    with_reducible rfl
  rotate_left
  · simp only [Act.put, List.setIfInBounds_toArray, List.set_cons_zero, List.set_cons_succ, i64_w, i32_w]
    rfl
  refine take_ (i := 0) (N := some 19) (v := ?_) (a' := ?_) #[true, false, false, true, false, false, false] rfl rfl (by kernel_rfl) (fun _ _ _ h => h) (Or.inl ⟨by rfl, ?_⟩) hHeld ?_ ?_
  rotate_left
  · rintro w' ⟨s0, s1⟩
    go_simp
    with_reducible rfl
  rotate_left
  · simp only [Act.put, List.setIfInBounds_toArray, List.set_cons_zero, List.set_cons_succ, i64_w, i32_w]
    rfl
  refine pure_ (i := 1) (N := some 20) (v := ?_) (a' := ?_) #[true, true, false, true, false, false, false] rfl rfl (by kernel_rfl) (fun _ _ _ h => h) (Or.inl ⟨by rfl, ?_⟩) ?_ ?_
  rotate_left
  · intro w'
    go_simp
    with_reducible rfl
  rotate_left
  · simp only [Act.put, List.setIfInBounds_toArray, List.set_cons_zero, List.set_cons_succ, i64_w, i32_w]
    rfl
  refine pure_ (i := 2) (N := some 21) (v := ?_) (a' := ?_) #[true, true, true, true, false, false, false] rfl rfl (by kernel_rfl) (fun _ _ _ h => h) (Or.inl ⟨by rfl, ?_⟩) ?_ ?_
  rotate_left
  · intro w'
    go_simp
    with_reducible rfl
  rotate_left
  · simp only [Act.put, List.setIfInBounds_toArray, List.set_cons_zero, List.set_cons_succ, i64_w, i32_w]
    rfl
  refine take_ (i := 4) (N := some 23) (v := ?_) (a' := ?_) #[true, true, true, true, true, false, false] rfl rfl (by kernel_rfl) (fun _ _ _ h => h) (Or.inl ⟨by rfl, ?_⟩) hHeld ?_ ?_
  rotate_left
  · rintro w' ⟨s0, s1⟩
    go_simp
    with_reducible rfl
  rotate_left
  · simp only [Act.put, List.setIfInBounds_toArray, List.set_cons_zero, List.set_cons_succ, i64_w, i32_w]
    rfl
  refine one_ (i := 5) (N := some 24) #[true, true, true, true, true, true, false] rfl rfl (by kernel_rfl) (by decide) (fun K hK => ?_)
  refine goes_ Tryd.func30 (by kernel_rfl) rfl #[.int .i64 x.f1] (by rfl) rfl rfl (by simp only [List.map_toArray, List.map_cons, List.map_nil]; rfl) ?_
  with_reducible refine (hit.out).mono ?_
  rintro e W3 ⟨rfl, hb3⟩
  refine ⟨_, rfl, ?_⟩
  have bb3 : BK base wb (W1.alloc (.cells #[.int .i64 x.f0, .int .i64 x.f1, .string x.f2, .int .i64 x.f3] 38)) W3 := (BK.of_below (by have := m1.out.base_le; exact Nat.le_trans this.1 (Nat.le_of_lt this.2)) (Below.drew (Below.refl _ _))).trans (BK.of_below (by have := m1.out.base_le; exact Nat.le_trans this.1 (Nat.le_of_lt this.2)) hb3)
  have m3 := Aside0.mk ((m1.out.keep (Below.drew (Below.refl _ _))).keep hb3)
  have d0 := (HV.out.bk bb3).cp
  have d1 : W3.cell? ⟨W1.heap.size, 1, none⟩ = some (.int .i64 x.f1) := (hb3.cell (by simp)).trans ci
  have HB3 := Aside0.mk (HB.out.trans bb3)
  have K3 := Aside0.mk bb3
  clear bb3 hb3
  refine hK.out _ _ ⟨d0, d1⟩ (fun hHeld => ?_)
  clear hK K
  refine norm_ (a' := ?_) ?_ ?_
  rotate_left
  · show Act.put _ (some 24) _ = _
    simp only [Act.put, List.setIfInBounds_toArray, List.set_cons_zero, List.set_cons_succ, i64_w, i32_w]
    rfl
  refine last_ (i := 6) (N := some 25) #[true, true, true, true, true, true, true] rfl rfl (by kernel_rfl) (by decide) (fun K hK => ?_)
  refine goes_ Tryd.func23 (by kernel_rfl) rfl #[.pointer (some ⟨wb, 0, none⟩), .string (S (Lib.itoa x.f1))] (by rfl) rfl rfl (by simp only [List.map_toArray, List.map_cons, List.map_nil]; rfl) ?_
  with_reducible refine ((ws_string m3.out (S (Lib.itoa x.f1)) (by rw [S_size]; exact hzz.out))).mono ?_
  rintro e W4 ⟨rfl, m4, b4⟩
  refine ⟨_, rfl, ?_⟩
  have ci4 : W4.cell? ⟨W1.heap.size, 1, none⟩ = some (.int .i64 x.f1) := by
    have h0 := K3.out.2 W1.heap.size (.cells #[.int .i64 x.f0, .int .i64 x.f1, .string x.f2, .int .i64 x.f3] 38) Array.getElem?_push_size hne.out (fun c e => by simp at e)
    have h1 := b4.2 W1.heap.size _ h0 hne.out (fun c e => by simp at e)
    rw [Lib.cell_of_heap h1]; rfl
  have HF := Aside0.mk (And.intro m4 (HB3.out.trans b4))
  clear m4 b4
  refine hK.out _ _ ?_
  clear hK K
  refine norm_ (a' := ?_) ?_ ?_
  rotate_left
  · show Act.put _ (some 25) _ = _
    simp only [Act.put, List.setIfInBounds_toArray, List.set_cons_zero, List.set_cons_succ, i64_w, i32_w]
    rfl
  refine done_ (by kernel_rfl) ?_
  rw [S_data] at HF
  clear d0 d1 ci c0 c1 hHeld
  by_cases hlo : -100000000 ≤ x.f1
  · by_cases hhi : x.f1 ≤ 100000000
    · go_wp2_with fail
      go_ret
      first | exact ⟨HF.out.2, rfl, HF.out.1⟩ | (rw [if_pos ⟨hlo, hhi⟩]; exact ⟨HF.out.2, rfl, HF.out.1⟩)
    · go_wp2_with fail
      go_ret
      first | exact ⟨HF.out.2, rfl⟩ | (rw [if_neg (fun h => hhi h.2)]; exact ⟨HF.out.2, rfl⟩)
  · go_wp2_with fail
    go_ret
    first | exact ⟨HF.out.2, rfl⟩ | (rw [if_neg (fun h => hlo h.1)]; exact ⟨HF.out.2, rfl⟩)
/-- What value does, of however many items. -/
theorem value_vc : ∀ n, VC n := by
  intro n
  induction n with
  | zero =>
    intro k d l w base wb bs hn hk hd hf hz ht hws
    have hl : l = [] := List.eq_nil_of_length_eq_zero (by omega)
    subst hl
    rw [pval_nil]
    by_cases h16 : d = 16
    · exact v_deep (k := k) h16 hws (fun x r h => by cases h) (fun x r h => by cases h)
    · exact v_none (k := k) hws (fun x r h => by cases h) (fun x r h => by cases h) (fun x r h => by cases h) (fun x r h => by cases h) (by omega)
  | succ n ih =>
    intro k d l w base wb bs hn hk hd hf hz ht hws
    cases l with
    | nil => exact ih k d [] w base wb bs (Nat.zero_le _) hk hd hf hz ht hws
    | cons x r =>
      obtain ⟨k, rfl⟩ : ∃ k', k = k' + 1 := ⟨k - 1, by omega⟩
      have hfx := hf x List.mem_cons_self
      have hfr : Fine r := hf.suffix (List.suffix_cons _ _)
      simp only [List.length_cons] at hn hk
      simp only [Js.osz] at hz
      unfold Js.pval
      by_cases h1 : x.f0 = 1
      · rw [if_pos h1]
        exact v_num (k := k) h1 hfx.2.1 hfx.2.2 (by omega) ht hws
      rw [if_neg h1]
      by_cases h2 : x.f0 = 2
      · rw [if_pos h2]
        exact v_text (k := k) h2 hfx.1 (by omega) hws
      rw [if_neg h2]
      by_cases h16 : d = 16
      · rw [if_pos h16]
        exact v_deep (k := k) h16 hws (fun y s h => by cases h; exact h1) (fun y s h => by cases h; exact h2)
      rw [if_neg h16]
      by_cases h3 : x.f0 = 3
      · rw [if_pos h3]
        exact v_list (by omega) h3 (one_list (by omega) ih) (by omega) (by omega) hfr (by omega) ht hws
      rw [if_neg h3]
      by_cases h4 : x.f0 = 4
      · rw [if_pos h4]
        exact v_obj (by omega) h4 (one_obj (by omega) ih) (by omega) (by omega) hfr (by omega) ht hws
      rw [if_neg h4]
      exact v_none (k := k) hws (fun y s h => by cases h; exact h1) (fun y s h => by cases h; exact h2) (fun y s h => by cases h; exact h3) (fun y s h => by cases h; exact h4) (by omega)
end Go.Proofs.YtainnkpoibgkcaaDoor
