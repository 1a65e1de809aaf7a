/- The document's Put of diagnostics, its Norm and its Told, in plain Lean. Conditions: at most 1000000000 nodes and numbers. -/
import Derived.Test.YtofklpphalalhaaGreatDoorUhPAllx17
import Derived.Test.YtofklpphalalhaaGreatDoorUhJ33
import Derived.Test.YtofklpphalalhaaGreatDoorUhJ16
import Derived.Test.YtofklpphalalhaaGreatDoorUhJ10
import Derived.Test.YtofklpphalalhaaGreatDoorUhJ17
namespace Go.Proofs.YtofklpphalalhaaGreatDoor.Evs
set_option linter.unusedVariables false
set_option linter.unusedSimpArgs false
set_option linter.unusedSectionVars false
open Go.RowKit Go.Lib Go.Proofs.YtofklpphalalhaaGreatDoor.PAll Go.Proofs.YtofklpphalalhaaGreatDoorW.PrintWords Go.Proofs.YtofklpphalalhaaGreatDoorW.PrintLast
theorem Ev.one {α : Type} {g : Nat → Option α} {r : α} (h : ∀ k, g (k + 1) = some r) : Ev g r :=
 ⟨1, fun k hk => by obtain ⟨m, rfl⟩ : ∃ m, k = m + 1 := ⟨k - 1, by omega⟩; exact h m⟩
theorem refLess (a b : Dg.D) : entrepotref04_Less.f a.1 a.2 b.1 b.2 = some (Dg.less a b) := by
 unfold entrepotref04_Less.f Dg.less
 by_cases h1 : a.1 < b.1
 ·rw [if_pos h1, decide_eq_true h1]; rfl
 ·by_cases h2 : a.1 = b.1
  ·rw [if_neg h1, if_pos h2, decide_eq_false h1, decide_eq_true h2]; rfl
  ·rw [if_neg h1, if_neg h2, decide_eq_false h1, decide_eq_false h2]; rfl
def Dl (l : List S38) : List Dg.D := l.map toD
theorem Dl_length (l : List S38) : (Dl l).length = l.length := List.length_map ..
theorem Dl_rd (l : List S38) (i : Nat) : (Dl l).getD i (0, 0) = ((rd_T38 l (i : Int)).f0, (rd_T38 l (i : Int)).f1) := by
 unfold Dl rd_T38
 rw [Int.toNat_natCast, List.getD_eq_getElem?_getD, List.getD_eq_getElem?_getD, List.getElem?_map]
 cases l[i]? <;> rfl
theorem eq_D (a b : Dg.D) : (a.1 == b.1 && (a.2 == b.2)) = true ↔ b = a := by
 rw [Bool.and_eq_true, beq_iff_eq, beq_iff_eq]
 exact ⟨fun h => Prod.ext h.1.symm h.2.symm, fun h => by rw [h]; exact ⟨rfl, rfl⟩⟩
theorem nx (i : Nat) (h : i ≤ 1000000000) : wrap64 ((i : Int) + 1) = ((i + 1 : Nat) : Int) := by rw [w64 _ (by omega) (by omega)]; rfl
theorem Ev.later {α : Type} {g : Nat → Option α} {r : α} (h : Ev (fun k => g (k + 1)) r) : Ev g r := Ev.step (f := fun k => g (k + 1)) (fun _ => rfl) h
theorem allD_eq (l : List Dg.D) : allD l = Dg.putAll16 [] l := Dg.all_eq l
theorem drop_next (L : List Dg.D) (i : Nat) (h : i < L.length) : L.drop i = L.getD i (0, 0) :: L.drop (i + 1) := by
 rw [List.drop_eq_getElem_cons h, List.getD_eq_getElem?_getD, List.getElem?_eq_getElem h]; rfl
theorem rd_eta (l : List S38) (i : Nat) : (⟨(rd_T38 l (i : Int)).f0, (rd_T38 l (i : Int)).f1⟩ : S38) = toS ((Dl l).getD i (0, 0)) := by rw [Dl_rd]; rfl
theorem fin16 (A : List Dg.D) : (if 0 ≤ (mn ((A.map toS).length : Int) 16) then (if (mn ((A.map toS).length : Int) 16) ≤ ((A.map toS).length : Int) then (some ((A.map toS).take ((mn ((A.map toS).length : Int) 16) : Int).toNat)) else (none)) else (none)) = some ((A.take 16).map toS) := by
 have e : mn ((A.map toS).length : Int) 16 = ((min A.length 16 : Nat) : Int) := by
  rw [List.length_map]; unfold mn; split <;> omega
 rw [e, if_pos (by omega), if_pos (by rw [List.length_map]; omega), Int.toNat_natCast, ← List.map_take]
 congr 2
 by_cases h : A.length ≤ 16
 ·rw [Nat.min_eq_left h, List.take_of_length_le (Nat.le_refl _), List.take_of_length_le h]
 ·rw [Nat.min_eq_right (by omega)]
section
variable (l : List S38) (d : Dg.D) (hl : l.length ≤ 1000)
include hl
theorem refPut_t (j : Nat) : ∀ (i : Nat) (A : List Dg.D), i + j = l.length → A.length ≤ i + 2 → Ev (fun k => entrepotref04_Put.l0 k l (A.map toS) true (i : Int) d.1 d.2) (((A ++ (Dl l).drop i).take 16).map toS) := by
  induction j with
  | zero =>
    intro i A hi hA
    rw [List.drop_of_length_le (by rw [Dl_length]; omega), List.append_nil]
    refine Ev.one fun k => ?_
    simp only [entrepotref04_Put.l0]
    rw [if_neg (by omega), if_pos trivial, fin16]
  | succ j ih =>
    intro i A hi hA
    have := ih (i + 1) (A ++ [(Dl l).getD i (0, 0)]) (by omega) (by rw [List.length_append, List.length_singleton]; omega)
    rw [drop_next _ _ (by rw [Dl_length]; omega)]
    rw [List.append_assoc, List.map_append] at this
    refine Ev.step (fun k => ?_) (Ev.step (g := fun k => entrepotref04_Put.j1 k l (A.map toS) true (i : Int) false d.1 d.2) (fun k => ?_) this)
    · simp only [entrepotref04_Put.l0]
      rw [if_pos (by omega), if_pos trivial]
    · simp only [entrepotref04_Put.j1]
      rw [if_neg (by simp), if_pos (by omega), if_pos (by omega), if_pos (by rw [List.length_map]; omega), nx i (by omega), rd_eta]
      rfl
theorem refPut_f (j : Nat) : ∀ (i : Nat) (A : List Dg.D), i + j = l.length → A.length ≤ i → Ev (fun k => entrepotref04_Put.l0 k l (A.map toS) false (i : Int) d.1 d.2) (((A ++ Dg.rput d ((Dl l).drop i)).take 16).map toS) := by
  induction j with
  | zero =>
    intro i A hi hA
    rw [List.drop_of_length_le (by rw [Dl_length]; omega)]
    refine Ev.one fun k => ?_
    have e : (A.map toS ++ [(⟨d.1, d.2⟩ : S38)]) = (A ++ Dg.rput d []).map toS := by rw [List.map_append]; rfl
    simp only [entrepotref04_Put.l0]
    rw [if_neg (by omega), if_neg (by simp), if_pos (by rw [List.length_map]; omega), e, Option.bind_some, fin16]
  | succ j ih =>
    intro i A hi hA
    have hr := Dl_rd l i
    have hL := refLess ((Dl l).getD i (0, 0)) d
    rw [hr] at hL
    simp only at hL
    rw [← hr] at hL
    rw [drop_next _ _ (by rw [Dl_length]; omega), Dg.rput]
    cases hc : Dg.less ((Dl l).getD i (0, 0)) d with
    | true =>
      have := ih (i + 1) (A ++ [(Dl l).getD i (0, 0)]) (by omega) (by rw [List.length_append, List.length_singleton]; omega)
      rw [List.append_assoc, List.map_append] at this
      rw [if_pos rfl]
      refine Ev.step (fun k => ?_) (Ev.step (g := fun k => entrepotref04_Put.j1 k l (A.map toS) false (i : Int) false d.1 d.2) (fun k => ?_) this)
      · simp only [entrepotref04_Put.l0]
        rw [if_pos (by omega), if_neg (by simp), if_pos (by omega), hL, hc]; rfl
      · simp only [entrepotref04_Put.j1]
        rw [if_neg (by simp), if_pos (by omega), if_pos (by omega), if_pos (by rw [List.length_map]; omega), nx i (by omega), rd_eta]
        rfl
    | false =>
      rw [if_neg (by simp)]
      have e0 : (A.map toS ++ [(⟨d.1, d.2⟩ : S38)]) = (A ++ [d]).map toS := by rw [List.map_append]; rfl
      have e := eq_D ((Dl l).getD i (0, 0)) d
      rw [hr] at e
      simp only at e
      rw [← hr] at e
      by_cases he : (Dl l).getD i (0, 0) = d
      · have := refPut_t l d hl j (i + 1) (A ++ [d]) (by omega) (by rw [List.length_append, List.length_singleton]; omega)
        rw [List.append_assoc] at this
        rw [if_pos he]
        refine Ev.step (fun k => ?_) (Ev.step (g := fun k => entrepotref04_Put.j1 k l (A.map toS) false (i : Int) true d.1 d.2) (fun k => ?_) this)
        · simp only [entrepotref04_Put.l0]
          rw [if_pos (by omega), if_neg (by simp), if_pos (by omega), hL, hc]; rfl
        · simp only [entrepotref04_Put.j1]
          rw [if_pos trivial, if_pos (by rw [List.length_map]; omega), e0, Option.bind_some, if_pos (by omega), if_pos (by omega), if_pos (e.2 he.symm), nx i (by omega)]
      · have := refPut_t l d hl j (i + 1) (A ++ [d] ++ [(Dl l).getD i (0, 0)]) (by omega) (by rw [List.length_append, List.length_append, List.length_singleton, List.length_singleton]; omega)
        rw [show ∀ R : List Dg.D, (A ++ [d] ++ [(Dl l).getD i (0, 0)]) ++ R = A ++ d :: (Dl l).getD i (0, 0) :: R from fun R => by simp, List.map_append (l₁ := A ++ [d])] at this
        rw [if_neg he]
        refine Ev.step (fun k => ?_) (Ev.step (g := fun k => entrepotref04_Put.j1 k l (A.map toS) false (i : Int) true d.1 d.2) (fun k => ?_) this)
        · simp only [entrepotref04_Put.l0]
          rw [if_pos (by omega), if_neg (by simp), if_pos (by omega), hL, hc]; rfl
        · simp only [entrepotref04_Put.j1]
          rw [if_pos trivial, if_pos (by rw [List.length_map]; omega), e0, Option.bind_some, if_pos (by omega), if_pos (by omega), if_neg (fun h => he (e.1 h).symm), if_pos (by rw [List.length_map, List.length_append, List.length_singleton]; omega), nx i (by omega), rd_eta]
          rfl
end
theorem refPut (l : List S38) (hl : l.length ≤ 1000) (d : Dg.D) : Ev (fun k => entrepotref04_Put.f k l d.1 d.2) (((Dg.rput d (Dl l)).take 16).map toS) := by
 unfold entrepotref04_Put.f
 exact refPut_f l d hl l.length 0 [] (by omega) (Nat.le_refl _)
theorem putAll16_cons (acc : List Dg.D) (d : Dg.D) (l : List Dg.D) : Dg.putAll16 acc (d :: l) = Dg.putAll16 ((Dg.rput d acc).take 16) l := rfl
theorem Dl_toS (L : List Dg.D) : Dl (L.map toS) = L := by
 unfold Dl
 rw [List.map_map]
 exact (List.map_congr_left (fun x _ => toD_toS x)).trans (List.map_id L)
/-! Norm. -/
theorem rn_set (L : List S71) (i : Nat) (a : S71) : (L.map rn).set i (rn a) = (L.set i a).map rn := by rw [List.map_set]
theorem rd71_get (L : List S71) (i : Nat) (h : i < L.length) : rd_T71 L (i : Int) = L[i] := by
 unfold rd_T71
 rw [Int.toNat_natCast, List.getD_eq_getElem?_getD, List.getElem?_eq_getElem h]; rfl
def part (l : List S71) (i : Nat) : List S71 := (l.take i).map Cn.ten ++ l.drop i
theorem part_len (l : List S71) (i : Nat) (h : i ≤ l.length) : (part l i).length = l.length := by unfold part; rw [List.length_append, List.length_map, List.length_take, List.length_drop]; omega
theorem part_get (l : List S71) (i : Nat) (h : i < l.length) : rd_T71 (part l i) (i : Int) = l[i] := by
 rw [rd71_get _ _ (by rw [part_len _ _ (by omega)]; exact h)]
 unfold part
 rw [List.getElem_append_right (by rw [List.length_map, List.length_take]; omega)]
 simp only [List.length_map, List.length_take, List.getElem_drop]
 congr 1
 omega
theorem part_set (l : List S71) (i : Nat) (h : i < l.length) : (part l i).set i (Cn.ten l[i]) = part l (i + 1) := by
 unfold part
 rw [List.set_append_right _ _ (by rw [List.length_map, List.length_take]; omega), List.length_map, List.length_take, Nat.min_eq_left (by omega), Nat.sub_self, List.drop_eq_getElem_cons h, List.set_cons_zero, List.take_succ_eq_append_getElem h, List.map_append]
 simp
theorem part_end (l : List S71) : part l l.length = l.map Cn.ten := by unfold part; rw [List.take_length, List.drop_length, List.append_nil]
theorem refNorm_l2 (nm : ByteArray) (k m s c f : Int) (l6 : List S128) (mx : List Int) (r : ByteArray × Int × Int × Int × Int × Int × (List S128) × List Int) (l : List S71) (hl : l.length ≤ 1000000000)
    (G : Ev (fun n => entrepotref08_Norm.l0 n ((l.map Cn.ten).map rn) nm k m (wrap64 (s - 1)) c f l6 mx) r) (j : Nat) : ∀ i : Nat, i + j = l.length → Ev (fun n => entrepotref08_Norm.l2 n ((part l i).map rn) (i : Int) nm k m s c f l6 mx) r := by
  induction j with
  | zero =>
    intro i hi
    obtain rfl : i = l.length := by omega
    refine Ev.step (fun n => ?_) G
    simp only [entrepotref08_Norm.l2]
    rw [if_neg (by rw [List.length_map, part_len _ _ (Nat.le_refl _)]; omega), part_end]
  | succ j ih =>
    intro i hi
    refine Ev.step (fun n => ?_) (ih (i + 1) (by omega))
    have hil : i < l.length := by omega
    have hp : i < (part l i).length := by rw [part_len _ _ (by omega)]; exact hil
    simp only [entrepotref08_Norm.l2]
    rw [if_pos (by rw [List.length_map, part_len _ _ (by omega)]; omega), if_pos (by omega), Option.bind_some, rd_rn _ _ hp, part_get l i hil, Int.toNat_natCast, nx i (by omega)]
    have e1 : (⟨wrap64 (Int.tdiv (rn l[i]).f0 10), (rn l[i]).f1, (rn l[i]).f2, (rn l[i]).f3, (rn l[i]).f4, (rn l[i]).f5, (rn l[i]).f6⟩ : S128) = rn ⟨wrap64 (Int.tdiv l[i].f0 10), l[i].f1, l[i].f2, l[i].f3, l[i].f4, l[i].f5, l[i].f6⟩ := rfl
    rw [e1, rn_set]
    have hp2 : i < ((part l i).set i ⟨wrap64 (Int.tdiv l[i].f0 10), l[i].f1, l[i].f2, l[i].f3, l[i].f4, l[i].f5, l[i].f6⟩).length := by rw [List.length_set]; exact hp
    have e2 : rd_T71 ((part l i).set i ⟨wrap64 (Int.tdiv l[i].f0 10), l[i].f1, l[i].f2, l[i].f3, l[i].f4, l[i].f5, l[i].f6⟩) (i : Int) = ⟨wrap64 (Int.tdiv l[i].f0 10), l[i].f1, l[i].f2, l[i].f3, l[i].f4, l[i].f5, l[i].f6⟩ := by
      rw [rd71_get _ _ hp2, List.getElem_set_self]
    rw [rd_rn _ _ hp2, e2]
    have e3 : (⟨(rn (⟨wrap64 (Int.tdiv l[i].f0 10), l[i].f1, l[i].f2, l[i].f3, l[i].f4, l[i].f5, l[i].f6⟩ : S71)).f0, wrap64 (Int.tdiv (rn (⟨wrap64 (Int.tdiv l[i].f0 10), l[i].f1, l[i].f2, l[i].f3, l[i].f4, l[i].f5, l[i].f6⟩ : S71)).f1 10), (rn (⟨wrap64 (Int.tdiv l[i].f0 10), l[i].f1, l[i].f2, l[i].f3, l[i].f4, l[i].f5, l[i].f6⟩ : S71)).f2, (rn (⟨wrap64 (Int.tdiv l[i].f0 10), l[i].f1, l[i].f2, l[i].f3, l[i].f4, l[i].f5, l[i].f6⟩ : S71)).f3, (rn (⟨wrap64 (Int.tdiv l[i].f0 10), l[i].f1, l[i].f2, l[i].f3, l[i].f4, l[i].f5, l[i].f6⟩ : S71)).f4, (rn (⟨wrap64 (Int.tdiv l[i].f0 10), l[i].f1, l[i].f2, l[i].f3, l[i].f4, l[i].f5, l[i].f6⟩ : S71)).f5, (rn (⟨wrap64 (Int.tdiv l[i].f0 10), l[i].f1, l[i].f2, l[i].f3, l[i].f4, l[i].f5, l[i].f6⟩ : S71)).f6⟩ : S128) = rn (Cn.ten l[i]) := rfl
    rw [e3, rn_set, List.set_set, part_set l i hil]
theorem any_next (l : List S71) (i : Nat) (h : i < l.length) : (l.take (i + 1)).any Cn.odd = ((l.take i).any Cn.odd || Cn.odd l[i]) := by
 rw [List.take_succ_eq_append_getElem h, List.any_append]; simp
theorem refNorm_l1 (nm : ByteArray) (k m s c f : Int) (l6 : List S128) (mx : List Int) (hmx : mx.length ≤ 1000000000) (r : ByteArray × Int × Int × Int × Int × Int × (List S128) × List Int) (l : List S71) (hl : l.length ≤ 1000000000)
    (G : l.any Cn.odd = false → Ev (fun n => entrepotref08_Norm.l0 n ((l.map Cn.ten).map rn) nm k m (wrap64 (s - 1)) c f l6 mx) r) (H : l.any Cn.odd = true → r = (nm, k, m, s, c, f, l.map rn, mx)) (j : Nat) : ∀ i : Nat, i + j = l.length → Ev (fun n => entrepotref08_Norm.l1 n (l.map rn) (!(l.take i).any Cn.odd) (i : Int) nm k m s c f l6 mx) r := by
  induction j with
  | zero =>
    intro i hi
    obtain rfl : i = l.length := by omega
    rw [List.take_length]
    cases ho : l.any Cn.odd with
    | false =>
      have g := refNorm_l2 nm k m s c f l6 mx r l hl (G ho) l.length 0 (by omega)
      refine Ev.step (fun n => ?_) g
      simp only [entrepotref08_Norm.l1]
      rw [if_neg (by rw [List.length_map]; omega), if_pos (by simp)]
      rfl
    | true =>
      rw [H ho]
      refine Ev.one fun n => ?_
      simp only [entrepotref08_Norm.l1]
      rw [if_neg (by rw [List.length_map]; omega), if_neg (by simp), Option.bind_some, if_pos (by simp; omega)]
      rfl
  | succ j ih =>
    intro i hi
    have hil : i < l.length := by omega
    have g := ih (i + 1) (by omega)
    rw [any_next l i hil] at g
    refine Ev.step (fun n => ?_) g
    simp only [entrepotref08_Norm.l1]
    rw [if_pos (by rw [List.length_map]; omega), rd_rn _ _ hil, rd71_get _ _ hil, nx i (by omega)]
    cases (l.take i).any Cn.odd with
    | true =>
      rw [if_neg (by simp)]
      simp
    | false =>
      rw [if_pos (by simp), if_pos (by omega)]
      by_cases h0 : Int.tmod (rn l[i]).f0 10 = 0
      · rw [if_pos h0]
        congr 1
        have h0' : Int.tmod l[i].f0 10 = 0 := h0
        unfold Cn.odd
        rw [h0']
        simp only [Bool.false_or]
        show (Int.tmod l[i].f1 10 == 0) = _
        cases hq : (Int.tmod l[i].f1 10 == 0) <;> simp_all
      · rw [if_neg h0]
        congr 1
        have h0' : ¬ Int.tmod l[i].f0 10 = 0 := h0
        unfold Cn.odd
        simp [h0']
def fields (x : Cn.In) : ByteArray × Int × Int × Int × Int × Int × (List S128) × List Int := (x.nm, x.kind, x.metric, x.scale, x.cap, x.fleet, x.nodes.map rn, x.mx)
theorem refNorm_l0 (l6 : List S128) (n : Nat) : ∀ x : Cn.In, x.nodes.length ≤ 1000000000 → x.mx.length ≤ 1000000000 → (x.scale < n ∨ 6 < x.scale) → Ev (fun q => entrepotref08_Norm.l0 q (x.nodes.map rn) x.nm x.kind x.metric x.scale x.cap x.fleet l6 x.mx) (fields (Cn.normN n x)) := by
  induction n with
  | zero =>
    intro x hn hm hs
    refine Ev.step (f := fun q => entrepotref08_Norm.j1 q (x.nodes.map rn) false x.nm x.kind x.metric x.scale x.cap x.fleet l6 x.mx) (fun q => ?_) (Ev.one fun q => ?_)
    · simp only [entrepotref08_Norm.l0]
      by_cases h1 : x.scale ≥ 1
      · rw [if_pos h1, decide_eq_false (by omega)]
      · rw [if_neg h1]
    · simp only [entrepotref08_Norm.j1]
      rw [if_neg (by simp), Option.bind_some, if_pos (by simp; omega)]
      rfl
  | succ n ih =>
    intro x hn hm hs
    by_cases h1 : 1 ≤ x.scale ∧ x.scale ≤ 6
    · have hb : Cn.btw x.scale 1 6 = true := by unfold Cn.btw; exact decide_eq_true h1
      have hw : wrap64 (x.scale - 1) = x.scale - 1 := w64 _ (by omega) (by omega)
      have g := refNorm_l1 x.nm x.kind x.metric x.scale x.cap x.fleet l6 x.mx hm (fields (Cn.normN (n + 1) x)) x.nodes hn (fun ho => by
        have hgo : Cn.goes x = true := by unfold Cn.goes; rw [hb, ho]; rfl
        have := ih (Cn.down x) (by show (x.nodes.map Cn.ten).length ≤ _; rw [List.length_map]; exact hn) hm (.inl (by show x.scale - 1 < n; omega))
        rw [show Cn.normN (n + 1) x = Cn.normN n (Cn.down x) by rw [Cn.normN, if_pos hgo], hw]
        exact this) (fun ho => by
        have hgo : Cn.goes x = false := by unfold Cn.goes; rw [hb, ho]; rfl
        rw [Cn.normN_stop _ _ hgo]; rfl) x.nodes.length 0 (by omega)
      refine Ev.step (f := fun q => entrepotref08_Norm.j1 q (x.nodes.map rn) true x.nm x.kind x.metric x.scale x.cap x.fleet l6 x.mx) (fun q => ?_) (Ev.step (f := fun q => entrepotref08_Norm.l1 q (x.nodes.map rn) (!(x.nodes.take 0).any Cn.odd) ((0 : Nat) : Int) x.nm x.kind x.metric x.scale x.cap x.fleet l6 x.mx) (fun q => ?_) g)
      · simp only [entrepotref08_Norm.l0]
        rw [if_pos h1.1, decide_eq_true h1.2]
      · simp only [entrepotref08_Norm.j1]
        rw [if_pos trivial]
        rfl
    · have hgo : Cn.goes x = false := by
        have hb : Cn.btw x.scale 1 6 = false := by unfold Cn.btw; exact decide_eq_false h1
        unfold Cn.goes; rw [hb]; rfl
      rw [Cn.normN_stop _ _ hgo]
      refine Ev.step (f := fun q => entrepotref08_Norm.j1 q (x.nodes.map rn) false x.nm x.kind x.metric x.scale x.cap x.fleet l6 x.mx) (fun q => ?_) (Ev.one fun q => ?_)
      · simp only [entrepotref08_Norm.l0]
        by_cases h2 : x.scale ≥ 1
        · rw [if_pos h2, decide_eq_false (by omega)]
        · rw [if_neg h2]
      · simp only [entrepotref08_Norm.j1]
        rw [if_neg (by simp), Option.bind_some, if_pos (by simp; omega)]
        rfl
theorem refNorm (x : Cn.In) (hn : x.nodes.length ≤ 1000000000) (hm : x.mx.length ≤ 1000000000) : Ev (fun q => entrepotref08_Norm.f q x.nm x.kind x.metric x.scale x.cap x.fleet (x.nodes.map rn) x.mx) (fields (Cn.norm x)) := by
 have g := refNorm_l0 (x.nodes.map rn) 7 x hn hm (by omega)
 obtain ⟨K, hK⟩ := g
 refine ⟨K, fun q hq => ?_⟩
 show entrepotref08_Norm.f q x.nm x.kind x.metric x.scale x.cap x.fleet (x.nodes.map rn) x.mx = _
 unfold entrepotref08_Norm.f
 rw [Option.bind_some, if_pos (by simp; omega)]
 exact hK q hq
/-! Told. -/
def fieldsT (y : Cn.In × List Dg.D) : ByteArray × Int × Int × Int × Int × Int × (List S128) × List Int × (List S38) := (y.1.nm, y.1.kind, y.1.metric, y.1.scale, y.1.cap, y.1.fleet, y.1.nodes.map rn, y.1.mx, y.2.map toS)
theorem refTold_l (fs : List S169) (hf : ∀ y ∈ fs, 1 ≤ y.f0 ∧ y.f0 ≤ 13) (hl : fs.length ≤ 1000000) (j : Nat) : ∀ (i : Nat) (acc : List Dg.D), i + j = fs.length → acc.length ≤ 16 → Ev (fun q => entrepotref15_Told.l0 q (fs.map toF) (acc.map toS) (i : Int)) (fieldsT (Cn.zero, Dg.putAll16 acc ((fs.drop i).map Cn.dg))) := by
  induction j with
  | zero =>
    intro i acc hi ha
    rw [List.drop_of_length_le (by omega)]
    refine Ev.one fun q => ?_
    simp only [entrepotref15_Told.l0]
    rw [if_neg (by rw [List.length_map]; omega)]
    rfl
  | succ j ih =>
    intro i acc hi ha
    have hil : i < fs.length := by omega
    have hrd : (rd_T199 (fs.map toF) (i : Int)).f0 = fs[i].f0 := by
      unfold rd_T199
      rw [Int.toNat_natCast, List.getD_eq_getElem?_getD, List.getElem?_map, List.getElem?_eq_getElem hil]; rfl
    have hb := hf fs[i] (List.getElem_mem hil)
    have hw : wrap64 (300 + fs[i].f0) = 300 + fs[i].f0 := w64 _ (by omega) (by omega)
    have hp := refPut (acc.map toS) (by rw [List.length_map]; omega) (0, 300 + fs[i].f0)
    rw [show Dl (acc.map toS) = acc from Dl_toS acc] at hp
    have g := ih (i + 1) ((Dg.rput (0, 300 + fs[i].f0) acc).take 16) (by omega) (by rw [List.length_take]; omega)
    rw [List.drop_eq_getElem_cons hil, List.map_cons, putAll16_cons]
    obtain ⟨K1, h1⟩ := hp
    obtain ⟨K2, h2⟩ := g
    refine ⟨max K1 K2 + 1, fun q hq => ?_⟩
    obtain ⟨m, rfl⟩ : ∃ m, q = m + 1 := ⟨q - 1, by omega⟩
    show entrepotref15_Told.l0 (m + 1) (fs.map toF) (acc.map toS) (i : Int) = _
    simp only [entrepotref15_Told.l0]
    have e1 : entrepotref04_Put.f m (acc.map toS) 0 (300 + fs[i].f0) = some (((Dg.rput (0, 300 + fs[i].f0) acc).take 16).map toS) := h1 m (by omega)
    rw [if_pos (by rw [List.length_map]; omega), if_pos (by omega), hrd, hw, e1, Option.bind_some, nx i (by omega)]
    exact h2 m (by omega)
theorem refTold (x : Cn.In) (hs : x.nm.size ≤ 1000000000) (hn : x.nodes.length ≤ 1000000000) (hm : x.mx.length ≤ 1000000000) (ho : ∀ d ∈ x.nodes, NodeOk d) : Ev (fun q => entrepotref15_Told.f q x.nm x.kind x.metric x.scale x.cap x.fleet (x.nodes.map rn) x.mx) (fieldsT (Cn.told x)) := by
 have hnr : (x.nodes.map rn).map nr = x.nodes := by rw [List.map_map]; exact List.map_id _
 have hc : entrepotref08_Check.f x.nm x.kind x.metric x.scale x.cap x.fleet (x.nodes.map rn) x.mx = some ((Cn.check x).map toF) := by
  unfold entrepotref08_Check.f refIn
  rw [hnr, if_pos ⟨hs, by rw [List.length_map]; exact hn, fun d hd => by
   obtain ⟨y, hy, rfl⟩ := List.mem_map.1 hd
   exact ho y hy⟩]
 unfold Cn.told
 by_cases h0 : Cn.check x = []
 ·obtain ⟨K, hK⟩ := refNorm x hn hm
  rw [if_pos h0]
  refine ⟨K, fun q hq => ?_⟩
  show entrepotref15_Told.f q x.nm x.kind x.metric x.scale x.cap x.fleet (x.nodes.map rn) x.mx = _
  unfold entrepotref15_Told.f
  rw [hc, Option.bind_some, h0, if_pos (show (((([] : List S169).map toF).length : Nat) : Int) = 0 from rfl)]
  have e : entrepotref08_Norm.f q x.nm x.kind x.metric x.scale x.cap x.fleet (x.nodes.map rn) x.mx = some (fields (Cn.norm x)) := hK q hq
  rw [e]
  rfl
 ·rw [if_neg h0, allD_eq]
  obtain ⟨K, hK⟩ := refTold_l (Cn.check x) (Cn.check_f0 x) (by have := Cn.check_len x; omega) (Cn.check x).length 0 [] (by omega) (by simp)
  refine ⟨K, fun q hq => ?_⟩
  show entrepotref15_Told.f q x.nm x.kind x.metric x.scale x.cap x.fleet (x.nodes.map rn) x.mx = _
  unfold entrepotref15_Told.f
  have hp : 0 < (Cn.check x).length := List.length_pos_iff.2 h0
  rw [hc, Option.bind_some, if_neg (by rw [List.length_map]; omega)]
  exact hK q hq
end Go.Proofs.YtofklpphalalhaaGreatDoor.Evs
