/- jsonic's writer: what a call is handed; many, and its closures, walked by hand. Conditions: the writer lies as told; its texts are at most 1000000000 bytes each. -/
import Derived.Test.YtainnkpoibgkcaaDoorGivenQ
namespace Go.Proofs.YtainnkpoibgkcaaDoor
set_option linter.unusedVariables false
set_option linter.unusedSimpArgs false
open Go.RowKit Go.Proofs.YtainnkpoibgkcaaDoor.PAll Go.Proofs.YtainnkpoibgkcaaDoorW.PrintWords Go.Proofs.YtainnkpoibgkcaaDoorW.PrintLast

namespace Js
abbrev Pr := Option (List UInt8 × List S38)
def pre (a : List UInt8) : Pr → Pr
  | some (o, r) => some (a ++ o, r)
  | none => none
def pq (x : S38) (r : List S38) : Pr := match quote x.f2.data.toList with
  | some q => some (q, r)
  | none => none
/-- One of an object's, or of a list's. -/
def pone (v : List S38 → Pr) (obj : Bool) (l : List S38) : Pr :=
  if obj then (match l with
    | [] => none
    | x :: r => if x.f0 = 6 then (match quote x.f2.data.toList with
      | some q => pre (q ++ [58]) (v r)
      | none => none) else none)
  else v l
mutual
/-- The text of the value that these items begin with; and what is left of them. -/
def pval : Nat → Nat → List S38 → Pr
  | 0, _, _ => none
  | _ + 1, _, [] => none
  | k + 1, d, x :: r =>
    if x.f0 = 1 then (if -100000000 ≤ x.f1 ∧ x.f1 ≤ 100000000 then some (Lib.itoa x.f1, r) else none)
    else if x.f0 = 2 then pq x r
    else if d = 16 then none
    else if x.f0 = 3 then pre [91] (pmany k d false true r)
    else if x.f0 = 4 then pre [123] (pmany k d true true r)
    else none
def pmany : Nat → Nat → Bool → Bool → List S38 → Pr
  | 0, _, _, _, _ => none
  | _ + 1, _, _, _, [] => none
  | k + 1, d, obj, first, x :: r =>
    if x.f0 = 5 then some ([if obj then 125 else 93], r)
    else match pone (pval k (d + 1)) obj (x :: r) with
      | some (o, r') => pre ((if first then [] else [44]) ++ o) (pmany k d obj false r')
      | none => none
end
def osz : List S38 → Nat
  | [] => 0
  | x :: r => 6 * x.f2.size + 30 + osz r
/-- What is left is an end of it, shorter; what is written fits. -/
def Fits (l : List S38) (p : Pr) : Prop := ∀ o r, p = some (o, r) → o.length + osz r + 1 ≤ osz l ∧ r <:+ l ∧ r.length < l.length
theorem osz_suffix {r l : List S38} (h : r <:+ l) : osz r ≤ osz l := by
  obtain ⟨t, rfl⟩ := h
  induction t with
  | nil => exact Nat.le_refl _
  | cons x t ih => simp only [List.cons_append, osz]; omega
theorem fits_pq (x : S38) (r : List S38) : ∀ o r', pq x r = some (o, r') → o.length ≤ 6 * x.f2.size + 2 ∧ r' = r := by
  intro o r' h
  unfold pq at h
  split at h
  · rename_i q hq
    simp only [Option.some.injEq, Prod.mk.injEq] at h
    obtain ⟨rfl, rfl⟩ := h
    exact ⟨quote_len hq, rfl⟩
  · cases h
theorem pone_fits {v : List S38 → Pr} (hv : ∀ l, Fits l (v l)) (obj : Bool) (l : List S38) : ∀ o r, pone v obj l = some (o, r) → o.length + osz r + 1 ≤ osz l ∧ r <:+ l ∧ r.length < l.length := by
  intro o r h
  unfold pone at h
  cases obj with
  | false =>
    simp only [Bool.false_eq_true, if_false] at h ⊢
    have := hv l o r h
    exact ⟨by omega, this.2⟩
  | true =>
    simp only [if_true] at h ⊢
    cases l with
    | nil => cases h
    | cons x r0 =>
      simp only at h
      split at h
      · split at h
        · rename_i q hq
          cases hvr : v r0 with
          | none => rw [hvr] at h; cases h
          | some p =>
            obtain ⟨o', r'⟩ := p
            rw [hvr] at h
            simp only [pre, Option.some.injEq, Prod.mk.injEq] at h
            obtain ⟨rfl, rfl⟩ := h
            have h1 := hv r0 o' r' hvr
            have h2 := quote_len hq
            rw [size_len] at h2
            refine ⟨?_, h1.2.1.trans (List.suffix_cons _ _), by simp; omega⟩
            simp only [List.length_append, List.length_cons, List.length_nil, osz]; omega
        · cases h
      · cases h
theorem itoa_small {n : Int} (h : -100000000 ≤ n ∧ n ≤ 100000000) : (Lib.itoa n).length ≤ 21 := Lib.itoa_length_le n (by omega) (by omega)
theorem fits_all : ∀ (k : Nat), (∀ d l, Fits l (pval k d l)) ∧ (∀ d obj first l o r, pmany k d obj first l = some (o, r) → o.length + osz r ≤ osz l + (if first then 0 else 1) ∧ r <:+ l ∧ r.length < l.length)
  | 0 => ⟨fun d l o r h => by simp [pval] at h, fun d obj first l o r h => by simp [pmany] at h⟩
  | k + 1 => by
    obtain ⟨ihv, ihm⟩ := fits_all k
    constructor
    · intro d l o r h
      cases l with
      | nil => simp [pval] at h
      | cons x r0 =>
        have hend : ∀ (b : UInt8) obj, pre [b] (pmany k d obj true r0) = some (o, r) → o.length + osz r + 1 ≤ osz (x :: r0) ∧ r <:+ x :: r0 ∧ r.length < (x :: r0).length := by
          intro b obj h
          cases hm : pmany k d obj true r0 with
          | none => rw [hm] at h; cases h
          | some p =>
            obtain ⟨o', r'⟩ := p
            rw [hm] at h
            simp only [pre, Option.some.injEq, Prod.mk.injEq] at h
            obtain ⟨rfl, rfl⟩ := h
            have h1 := ihm d obj true r0 o' r' hm
            simp only [if_true] at h1
            refine ⟨?_, h1.2.1.trans (List.suffix_cons _ _), by simp; omega⟩
            simp only [List.length_append, List.length_cons, List.length_nil, osz]; omega
        simp only [pval] at h
        split at h
        · split at h
          · rename_i hn
            simp only [Option.some.injEq, Prod.mk.injEq] at h
            obtain ⟨rfl, rfl⟩ := h
            have := itoa_small hn
            exact ⟨by simp only [osz]; omega, List.suffix_cons _ _, by simp⟩
          · cases h
        · split at h
          · have h1 := fits_pq x r0 o r h
            obtain ⟨h1, rfl⟩ := h1
            exact ⟨by simp only [osz]; omega, List.suffix_cons _ _, by simp⟩
          · split at h
            · cases h
            · split at h
              · exact hend _ _ h
              · split at h
                · exact hend _ _ h
                · cases h
    · intro d obj first l o r h
      cases l with
      | nil => simp [pmany] at h
      | cons x r0 =>
        simp only [pmany] at h
        split at h
        · simp only [Option.some.injEq, Prod.mk.injEq] at h
          obtain ⟨rfl, rfl⟩ := h
          exact ⟨by simp only [osz, List.length_cons, List.length_nil]; split <;> omega, List.suffix_cons _ _, by simp⟩
        · cases ho : pone (pval k (d + 1)) obj (x :: r0) with
          | none => rw [ho] at h; cases h
          | some p =>
            obtain ⟨o1, r1⟩ := p
            rw [ho] at h
            simp only at h
            have h1 := pone_fits (ihv (d + 1)) obj (x :: r0) o1 r1 ho
            cases hm : pmany k d obj false r1 with
            | none => rw [hm] at h; cases h
            | some p =>
              obtain ⟨o2, r2⟩ := p
              rw [hm] at h
              simp only [pre, Option.some.injEq, Prod.mk.injEq] at h
              obtain ⟨rfl, rfl⟩ := h
              have h2 := ihm d obj false r1 o2 r2 hm
              refine ⟨?_, h2.2.1.trans h1.2.1, by omega⟩
              simp only [Bool.false_eq_true, if_false] at h2
              cases first <;> simp only [List.length_append, List.length_cons, List.length_nil, if_true, if_false, Bool.false_eq_true] <;> omega
end Js
end Go.Proofs.YtainnkpoibgkcaaDoor
namespace Go.Proofs.YtainnkpoibgkcaaDoor
set_option linter.unusedVariables false
set_option linter.unusedSimpArgs false
open Go.RowKit Go.Proofs.YtainnkpoibgkcaaDoor.PAll Go.Proofs.YtainnkpoibgkcaaDoorW.PrintWords Go.Proofs.YtainnkpoibgkcaaDoorW.PrintLast

/-- The two variables that the closures capture. -/
def VB (W : World) (wb p q d : Nat) : Prop := p ≠ wb ∧ q ≠ wb ∧ W.heap[p]? = some (.cells #[.pointer (some ⟨wb, 0, none⟩)] 46 (0, 0)) ∧ W.heap[q]? = some (.cells #[.int .i64 d] 3 (0, 0))
theorem VB.kp {W W' : World} {wb p q d : Nat} (h : VB W wb p q d) (k : Kp wb W W') : VB W' wb p q d :=
  ⟨h.1, h.2.1, k p _ h.2.2.1 h.1 (fun c e => by simp at e), k q _ h.2.2.2 h.2.1 (fun c e => by simp at e)⟩
theorem VB.bk {W W' : World} {base wb p q d : Nat} (h : VB W wb p q d) (k : BK base wb W W') : VB W' wb p q d := h.kp k.2
theorem VB.cp {W : World} {wb p q d : Nat} (h : VB W wb p q d) : W.cell? ⟨p, 0, none⟩ = some (.pointer (some ⟨wb, 0, none⟩)) := by rw [Lib.cell_of_heap h.2.2.1]; rfl
theorem VB.cq {W : World} {wb p q d : Nat} (h : VB W wb p q d) : W.cell? ⟨q, 0, none⟩ = some (.int .i64 d) := by rw [Lib.cell_of_heap h.2.2.2]; rfl
theorem VB.alloc {W : World} {wb p q d : Nat} (h : VB W wb p q d) (o : Obj) : VB (W.alloc o) wb p q d := h.kp ((Kp.refl _ _).alloc o)
/-- The listed variables stay, whatever lies at base or above. -/
def TB (base : Nat) (w : World) : Prop := ∀ w', Below base w w' → Tab w'
theorem TB.bk {base wb : Nat} {w w' : World} (h : TB base w) (k : BK base wb w w') : TB base w' := fun w2 h2 => h w2 (k.1.trans h2)
def Fine (l : List S38) : Prop := ∀ x ∈ l, x.f2.size ≤ 1000000000 ∧ -9223372036854775808 ≤ x.f1 ∧ x.f1 ≤ 9223372036854775807
theorem Fine.suffix {l r : List S38} (h : Fine l) (hr : r <:+ l) : Fine r := fun x hx => h x (hr.subset hx)
def PPost (w : World) (base wb : Nat) (bs : List UInt8) (R : Js.Pr) (e : Ending) (w' : World) : Prop := BK base wb w w' ∧ match R with
  | some (o, r) => e = .returned (.bool true) ∧ WS w' base wb r (bs ++ o)
  | none => e = .returned (.bool false)
theorem PPost.from {w w1 w' : World} {base wb : Nat} {bs : List UInt8} {R : Js.Pr} {e : Ending} (h : PPost w1 base wb bs R e w') (k : BK base wb w w1) : PPost w base wb bs R e w' := ⟨k.trans h.1, h.2⟩
theorem PPost.pre {w w' : World} {base wb : Nat} {bs a : List UInt8} {R : Js.Pr} {e : Ending} (h : PPost w base wb (bs ++ a) R e w') : PPost w base wb bs (Js.pre a R) e w' := by
  refine ⟨h.1, ?_⟩
  cases R with
  | none => exact h.2
  | some p => obtain ⟨o, r⟩ := p; exact ⟨h.2.1, by rw [← List.append_assoc]; exact h.2.2⟩
theorem PPost.ret {w w' : World} {base wb : Nat} {bs : List UInt8} {R : Js.Pr} {e : Ending} (h : PPost w base wb bs R e w') : ∃ b, e = .returned (.bool b) ∧ PPost w base wb bs R (.returned (.bool b)) w' := by
  have h2 := h.2
  cases R with
  | none => exact ⟨false, h2, by rw [← (show e = _ from h2)]; exact h⟩
  | some p => obtain ⟨o, r⟩ := p; exact ⟨true, h2.1, by rw [← h2.1]; exact h⟩
/-- value, of so many items. -/
def VC (n : Nat) : Prop := ∀ (k d : Nat) (l : List S38) (w : World) (base wb : Nat) (bs : List UInt8), l.length ≤ n → 2 * l.length + 1 ≤ k → d ≤ 16 → Fine l → bs.length + Js.osz l ≤ 140737488355328 → TB base w → WS w base wb l bs →
  Calls Tryd.prog 18 #[.pointer (some ⟨wb, 0, none⟩), .int .i64 d] w fun e w' => PPost w base wb bs (Js.pval k d l) e w'
/-- A closure, of so many items. -/
def OC (n : Nat) (obj : Bool) (K d base wb p q : Nat) : Prop := ∀ (k : Nat) (l : List S38) (w : World) (bs : List UInt8), l.length ≤ n → 2 * l.length + 1 ≤ k → Fine l → bs.length + Js.osz l ≤ 140737488355328 → TB base w → VB w wb p q d → WS w base wb l bs →
  Calls Tryd.prog K #[.pointer (some ⟨p, 0, none⟩), .pointer (some ⟨q, 0, none⟩)] w fun e w' => PPost w base wb bs (Js.pone (Js.pval k (d + 1)) obj l) e w'
set_option maxRecDepth 100000 in
set_option maxHeartbeats 2000000 in
theorem one_list {n d base wb p q : Nat} (hd : d < 16) (hV : VC n) : OC n false 33 d base wb p q := by
  intro k l w bs hn hk hf hz ht hvb hws
  have hc := Aside0.mk (hV k (d + 1) l w base wb bs hn hk (by omega) hf hz ht hws)
  have c0 := hvb.cp
  have c1 := hvb.cq
  have hd' : (d : Int) < 16 := by omega
  have e1 : ((d : Int) + 1) = ((d + 1 : Nat) : Int) := by omega
  rw [← e1] at hc
  clear hn hk hf hz ht hvb hws hV e1
  go_enter Tryd.func33, Tryd.ntmps33
  go_wp2_with fail
  refine hc.out.mono ?_
  rintro e w2 h
  obtain ⟨b, rfl, h⟩ := h.ret
  have HF := Aside0.mk h
  clear h hc
  go_wp2_with fail
  go_ret
  exact HF.out
set_option maxRecDepth 100000 in
set_option maxHeartbeats 2000000 in
theorem one_obj_no {d base wb p q : Nat} {v : List S38 → Js.Pr} {l : List S38} {w : World} {bs : List UInt8} (hvb : VB w wb p q d) (hws : WS w base wb l bs) (hk : ∀ x r, l = x :: r → x.f0 ≠ 6) :
    Calls Tryd.prog 34 #[.pointer (some ⟨p, 0, none⟩), .pointer (some ⟨q, 0, none⟩)] w fun e w' => PPost w base wb bs (Js.pone v true l) e w' := by
  have htk := Aside0.mk (take_no hws 6 hk)
  have hR : Aside0 (Js.pone v true l = none) := ⟨by
    unfold Js.pone
    cases l with
    | nil => rfl
    | cons x r => simp only [if_true, if_neg (hk x r rfl)]⟩
  have HV := Aside0.mk hvb
  have c0 := hvb.cp
  clear hvb hws hk
  go_enter Tryd.func34, Tryd.ntmps34
  go_wp2_with fail
  refine htk.out.mono ?_
  rintro e W1 ⟨rfl, m1, b1⟩
  have HF : Aside0 (BK base wb w (W1.alloc (.cells #[.int .i64 0, .int .i64 0, .string ⟨#[]⟩, .int .i64 0] 38))) := ⟨b1.trans (BK.of_below (by have := m1.base_le; omega) ((Below.refl _ _).alloc (Nat.le_refl _) _))⟩
  have hn : noIt = .agg #[.int .i64 0, .int .i64 0, .string ⟨#[]⟩, .int .i64 0] := rfl
  rw [hn]
  clear m1 b1 htk hn c0
  go_wp2_with fail
  go_ret
  rw [hR.out]
  exact ⟨HF.out, rfl⟩
set_option maxRecDepth 100000 in
set_option maxHeartbeats 2000000 in
theorem one_obj_bad {d base wb p q : Nat} {v : List S38 → Js.Pr} {x : S38} {r : List S38} {w : World} {bs : List UInt8} (hvb : VB w wb p q d) (hws : WS w base wb (x :: r) bs) (hk : x.f0 = 6) (hx : x.f2.size ≤ 1000000000) (hz : bs.length + (6 * x.f2.size + 2) ≤ 140737488355328) (hq : Js.quote x.f2.data.toList = none) :
    Calls Tryd.prog 34 #[.pointer (some ⟨p, 0, none⟩), .pointer (some ⟨q, 0, none⟩)] w fun e w' => PPost w base wb bs (Js.pone v true (x :: r)) e w' := by
  have htk := Aside0.mk (take_yes hws 6 hk)
  have hR : Aside0 (Js.pone v true (x :: r) = none) := ⟨by unfold Js.pone; simp only [if_true, if_pos hk, hq]⟩
  have HV := Aside0.mk hvb
  have HQ := Aside0.mk hq
  have c0 := hvb.cp
  clear hvb hws hq
  go_enter Tryd.func34, Tryd.ntmps34
  go_wp2_with fail
  refine htk.out.mono ?_
  rintro e W1 ⟨rfl, m1, b1⟩
  have hn : it x = .agg #[.int .i64 x.f0, .int .i64 x.f1, .string x.f2, .int .i64 x.f3] := rfl
  rw [hn]
  have hbk : BK base wb w (W1.alloc (.cells #[.int .i64 x.f0, .int .i64 x.f1, .string x.f2, .int .i64 x.f3] 38)) := b1.trans (BK.of_below (by have := m1.base_le; omega) ((Below.refl _ _).alloc (Nat.le_refl _) _))
  have hqd := Aside0.mk (quoted_walk (m1.keep ((Below.refl _ _).alloc (Nat.le_refl _) (.cells #[.int .i64 x.f0, .int .i64 x.f1, .string x.f2, .int .i64 x.f3] 38))) x.f2 hx hz)
  have d0 := (HV.out.bk hbk).cp
  have HB := Aside0.mk hbk
  clear m1 b1 htk hn c0 hbk hk
  go_wp2_with fail
  refine hqd.out.mono ?_
  rintro e W2 ⟨b2, hh⟩
  rw [HQ.out] at hh
  simp only at hh
  subst hh
  have HF := Aside0.mk (HB.out.trans b2)
  clear b2 hqd d0
  go_wp2_with fail
  go_ret
  rw [hR.out]
  exact ⟨HF.out, rfl⟩
set_option maxRecDepth 100000 in
set_option maxHeartbeats 2000000 in
theorem one_obj_good {n k d base wb p q : Nat} {x : S38} {r : List S38} {w : World} {bs q0 : List UInt8} (hd : d < 16) (hV : VC n) (hvb : VB w wb p q d) (hws : WS w base wb (x :: r) bs) (hk : x.f0 = 6) (hx : x.f2.size ≤ 1000000000) (hz : bs.length + Js.osz (x :: r) ≤ 140737488355328) (hq : Js.quote x.f2.data.toList = some q0)
    (hn : r.length ≤ n) (hkk : 2 * r.length + 1 ≤ k) (hf : Fine r) (ht : TB base w) :
    Calls Tryd.prog 34 #[.pointer (some ⟨p, 0, none⟩), .pointer (some ⟨q, 0, none⟩)] w fun e w' => PPost w base wb bs (Js.pone (Js.pval k (d + 1)) true (x :: r)) e w' := by
  have htk := Aside0.mk (take_yes hws 6 hk)
  have hR : Aside0 (Js.pone (Js.pval k (d + 1)) true (x :: r) = Js.pre (q0 ++ [58]) (Js.pval k (d + 1) r)) := ⟨by unfold Js.pone; simp only [if_true, if_pos hk, hq]⟩
  have HV := Aside0.mk hvb
  have HQ := Aside0.mk hq
  have c0 := hvb.cp
  have hql := Js.quote_len hq
  rw [size_len] at hql
  simp only [Js.osz] at hz
  have hd' : (d : Int) < 16 := by omega
  have HVC := Aside0.mk hV
  have HT := Aside0.mk ht
  have HFN := Aside0.mk hf
  clear hvb hws hq hV ht hf
  go_enter Tryd.func34, Tryd.ntmps34
  go_wp2_with fail
  refine htk.out.mono ?_
  rintro e W1 ⟨rfl, m1, b1⟩
  have hni : it x = .agg #[.int .i64 x.f0, .int .i64 x.f1, .string x.f2, .int .i64 x.f3] := rfl
  rw [hni]
  have hbk : BK base wb w (W1.alloc (.cells #[.int .i64 x.f0, .int .i64 x.f1, .string x.f2, .int .i64 x.f3] 38)) := b1.trans (BK.of_below (by have := m1.base_le; omega) ((Below.refl _ _).alloc (Nat.le_refl _) _))
  have hqd := Aside0.mk (quoted_walk (m1.keep ((Below.refl _ _).alloc (Nat.le_refl _) (.cells #[.int .i64 x.f0, .int .i64 x.f1, .string x.f2, .int .i64 x.f3] 38))) x.f2 hx (by omega))
  have d0 := (HV.out.bk hbk).cp
  have HB := Aside0.mk hbk
  clear m1 b1 htk hni c0 hbk hk
  go_wp2_with fail
  refine hqd.out.mono ?_
  rintro e W2 ⟨b2, hh⟩
  rw [HQ.out] at hh
  obtain ⟨rfl, m2⟩ := hh
  have b2' := HB.out.trans b2
  have c0 := (HV.out.bk b2').cp
  have hby := Aside0.mk (ws_byte m2 58 (by rw [List.length_append]; omega))
  have HB2 := Aside0.mk b2'
  clear m2 b2 b2' d0 hqd HB
  go_wp2_with fail
  refine hby.out.mono ?_
  rintro e W3 ⟨rfl, m3, b3⟩
  have b3' := HB2.out.trans b3
  have c0' := (HV.out.bk b3').cp
  have c1' := (HV.out.bk b3').cq
  have hvc := HVC.out k (d + 1) r W3 base wb (bs ++ q0 ++ [58]) hn hkk (by omega) HFN.out (by simp only [List.length_append, List.length_singleton]; omega) (HT.out.bk b3') m3
  rw [show ((d + 1 : Nat) : Int) = (d : Int) + 1 by omega] at hvc
  replace hvc := Aside0.mk hvc
  have HB3 := Aside0.mk b3'
  clear m3 b3 b3' c0 hby HB2 hql
  go_wp2_with fail
  refine hvc.out.mono ?_
  rintro e W4 h
  have h' : PPost W3 base wb bs (Js.pre (q0 ++ [58]) (Js.pval k (d + 1) r)) e W4 := PPost.pre (by rw [← List.append_assoc]; exact h)
  obtain ⟨b, rfl, h'⟩ := h'.ret
  have HF := Aside0.mk (h'.from HB3.out)
  clear h h' hvc
  go_wp2_with fail
  go_ret
  rw [hR.out]
  exact HF.out
theorem one_obj {n d base wb p q : Nat} (hd : d < 16) (hV : VC n) : OC (n + 1) true 34 d base wb p q := by
  intro k l w bs hn hk hf hz ht hvb hws
  cases l with
  | nil => exact one_obj_no hvb hws (fun x r h => by cases h)
  | cons x r =>
    by_cases h6 : x.f0 = 6
    · have hx := (hf x List.mem_cons_self).1
      simp only [List.length_cons] at hn hk
      cases hq : Js.quote x.f2.data.toList with
      | none => exact one_obj_bad hvb hws h6 hx (by simp only [Js.osz] at hz; omega) hq
      | some q0 => exact one_obj_good hd hV hvb hws h6 hx hz hq (by omega) (by omega) (hf.suffix (List.suffix_cons _ _)) ht
    · exact one_obj_no hvb hws (fun y s h => by cases h; exact h6)
end Go.Proofs.YtainnkpoibgkcaaDoor
