/- JsonicBack in plain Lean. Conditions: numbers in 64 bits. -/
import Derived.Test.YtainnkpoibgkcaaDoorBackA
import Derived.Test.YtainnkpoibgkcaaDoorBackB
import Derived.Test.YtainnkpoibgkcaaDoorMay
namespace Go.Proofs.YtainnkpoibgkcaaDoor
set_option linter.unusedVariables false
set_option linter.unusedSimpArgs false
open Go.RowKit Go.Lib Go.Proofs.YtainnkpoibgkcaaDoor.PAll Go.Proofs.YtainnkpoibgkcaaDoorW.PrintWords Go.Proofs.YtainnkpoibgkcaaDoorW.PrintLast
theorem Ev.one {α : Type} {g : Nat → Option α} {r : α} (h : ∀ k, g (k + 1) = some r) : Ev g r :=
  ⟨1, fun k hk => by obtain ⟨m, rfl⟩ : ∃ m, k = m + 1 := ⟨k - 1, by omega⟩; exact h m⟩
theorem Ev.pos {α : Type} {c : Prop} [Decidable c] {f g : Nat → Option α} {r : α} (hc : c) (h : Ev f r) : Ev (fun k => if c then f k else g k) r := by simp only [if_pos hc]; exact h
theorem Ev.neg {α : Type} {c : Prop} [Decidable c] {f g : Nat → Option α} {r : α} (hc : ¬ c) (h : Ev g r) : Ev (fun k => if c then f k else g k) r := by simp only [if_neg hc]; exact h
/-- An item as the document's. -/
def to39 (x : S38) : S39 := ⟨x.f0, x.f1, x.f2, x.f3⟩
theorem its_l0 (x0 : List S38) (hx : x0.length ≤ 100000) : ∀ (m i k : Nat) (x3 : List S39), x0.length - i = m → i ≤ x0.length → x3.length ≤ i → m < k → entrepotlaw19_its.l0 k x0 x3 (i : Int) = some (x3 ++ (x0.drop i).map to39)
  | m, i, 0, x3, _, _, _, hk => by omega
  | 0, i, k + 1, x3, hm, hi, h3, hk => by
    rw [entrepotlaw19_its.l0, if_neg (by omega), List.drop_eq_nil_of_le (by omega)]; simp
  | m + 1, i, k + 1, x3, hm, hi, h3, hk => by
    have hi : i < x0.length := by omega
    rw [entrepotlaw19_its.l0, if_pos (by omega), if_pos (by omega), if_pos (by omega), show wrap64 ((i : Int) + 1) = ((i + 1 : Nat) : Int) by unfold wrap64; omega]
    rw [its_l0 x0 hx m (i + 1) k _ (by omega) (by omega) (by simp; omega) (by omega)]
    have e : rd_T38 x0 (i : Int) = x0[i] := by unfold rd_T38; rw [Int.toNat_natCast, List.getD_eq_getElem?_getD, List.getElem?_eq_getElem hi]; rfl
    rw [List.drop_eq_getElem_cons hi, e, List.map_cons, List.append_assoc]
    rfl
theorem its_f (x0 : List S38) (hx : x0.length ≤ 100000) (k : Nat) (hk : x0.length < k) : entrepotlaw19_its.f k x0 = some (x0.map to39) := by
  unfold entrepotlaw19_its.f
  have := its_l0 x0 hx x0.length 0 k [] (by omega) (by omega) (by simp) hk
  simpa using this

theorem rd38 (L : List S38) (i : Nat) (h : i < L.length) : rd_T38 L (i : Int) = L[i] := by
  unfold rd_T38
  rw [Int.toNat_natCast, List.getD_eq_getElem?_getD, List.getElem?_eq_getElem h]; rfl
theorem long_l0 (L : List S38) : ∀ (m i : Nat), 210 - i = m → i ≤ L.length → i ≤ 210 → ∃ b, Ev (fun k => entrepotlaw19_long.l0 k L (i : Int)) b ∧ (b = false → L.length ≤ 200 ∧ ∀ j, i ≤ j → ∀ h : j < L.length, L[j].f2.size ≤ 200) := by
  intro m
  induction m with
  | zero =>
    intro i hm hi h210
    obtain rfl : i = 210 := by omega
    refine ⟨decide ((L.length : Int) > 200), Ev.step (f := fun k => entrepotlaw19_long.j1 k L ((210 : Nat) : Int) false) (fun k => ?_) (Ev.one fun k => by simp only [entrepotlaw19_long.j1]; rw [if_neg (by decide)]), fun h => ?_⟩
    · simp only [entrepotlaw19_long.l0]
      by_cases hl : ((210 : Nat) : Int) < (L.length : Int)
      · rw [if_pos hl]; rfl
      · rw [if_neg hl]
    · simp at h; omega
  | succ m ih =>
    intro i hm hi h210
    by_cases hl : i < L.length
    · have hstep : ∀ k, entrepotlaw19_long.l0 (k + 1) L (i : Int) = entrepotlaw19_long.j1 k L (i : Int) true := fun k => by
        simp only [entrepotlaw19_long.l0]
        rw [if_pos (by omega), show decide ((i : Int) < 210) = true from decide_eq_true (by omega)]
      by_cases hs : (L[i].f2.size : Int) > 200
      · refine ⟨true, Ev.step hstep (Ev.one fun k => ?_), fun h => by cases h⟩
        simp only [entrepotlaw19_long.j1, if_true]
        rw [if_pos (by omega), if_pos (by omega), rd38 L i hl, if_pos hs]
      · obtain ⟨b, h1, h2⟩ := ih (i + 1) (by omega) (by omega) (by omega)
        refine ⟨b, Ev.step hstep (Ev.step (fun k => ?_) h1), fun hb => ⟨(h2 hb).1, fun j hj h => ?_⟩⟩
        · simp only [entrepotlaw19_long.j1, if_true]
          rw [if_pos (by omega), if_pos (by omega), rd38 L i hl, if_neg hs, show wrap64 ((i : Int) + 1) = ((i + 1 : Nat) : Int) by unfold wrap64; omega]
        · by_cases hij : i = j
          · subst hij; omega
          · exact (h2 hb).2 j (by omega) h
    · refine ⟨decide ((L.length : Int) > 200), Ev.step (f := fun k => entrepotlaw19_long.j1 k L (i : Int) false) (fun k => ?_) (Ev.one fun k => by simp only [entrepotlaw19_long.j1]; rw [if_neg (by decide)]), fun h => ⟨by simp at h; omega, fun j hj h => by omega⟩⟩
      simp only [entrepotlaw19_long.l0]
      rw [if_neg (by omega)]
theorem long_f (L : List S38) : ∃ b, Ev (fun k => entrepotlaw19_long.f k L) b ∧ (b = false → L.length ≤ 200 ∧ ∀ x ∈ L, x.f2.size ≤ 200) := by
  obtain ⟨b, h1, h2⟩ := long_l0 L 210 0 rfl (Nat.zero_le _) (by omega)
  refine ⟨b, h1, fun hb => ⟨(h2 hb).1, fun x hx => ?_⟩⟩
  obtain ⟨j, hj, rfl⟩ := List.getElem_of_mem hx
  exact (h2 hb).2 j (Nat.zero_le _) hj
theorem its_ev (L : List S38) (h : L.length ≤ 100000) : Ev (fun k => entrepotlaw19_its.f k L) (L.map to39) := ⟨L.length + 1, fun k hk => its_f L h k (by omega)⟩
end Go.Proofs.YtainnkpoibgkcaaDoor
namespace Go.Proofs.YtainnkpoibgkcaaDoor
set_option linter.unusedVariables false
set_option linter.unusedSimpArgs false
open Go.RowKit Go.Lib Go.Proofs.YtainnkpoibgkcaaDoor.PAll Go.Proofs.YtainnkpoibgkcaaDoorW.PrintWords Go.Proofs.YtainnkpoibgkcaaDoorW.PrintLast
open Js (pless clean)
theorem same_l0 (x0 : List S39) (hx : x0.length ≤ 100000) : ∀ (m i k : Nat), x0.length - i = m → i ≤ x0.length → m < k → entrepotref19_Same.l0 k x0 x0 (i : Int) = some true
  | m, i, 0, _, _, hk => by omega
  | 0, i, k + 1, hm, hi, hk => by rw [entrepotref19_Same.l0, if_neg (by omega)]
  | m + 1, i, k + 1, hm, hi, hk => by
    rw [entrepotref19_Same.l0, if_pos (by omega), if_pos (by omega), if_pos (by omega), if_neg (by simp), show wrap64 ((i : Int) + 1) = ((i + 1 : Nat) : Int) by unfold wrap64; omega]
    exact same_l0 x0 hx m (i + 1) k (by omega) (by omega) (by omega)
theorem same_f (x0 : List S39) (hx : x0.length ≤ 100000) (k : Nat) (hk : x0.length < k) : entrepotref19_Same.f k x0 x0 = some true := by
  unfold entrepotref19_Same.f
  rw [if_pos rfl]
  exact same_l0 x0 hx x0.length 0 k (by omega) (by omega) hk
/-- An item without its place. -/
def zat (y : S39) : S39 := ⟨y.f0, y.f1, y.f2, 0⟩
theorem placeless_l0 (xs : List S39) (hx : xs.length ≤ 100000) : ∀ (m i k : Nat), xs.length - i = m → i ≤ xs.length → m < k →
    entrepotlaw19_placeless.l0 k ((xs.take i).map zat ++ xs.drop i) (i : Int) = some (xs.map zat)
  | m, i, 0, _, _, hk => by omega
  | 0, i, k + 1, hm, hi, hk => by
    have e : i = xs.length := by omega
    rw [entrepotlaw19_placeless.l0, e, List.take_length, List.drop_length, List.append_nil, List.length_map, if_neg (by omega)]
  | m + 1, i, k + 1, hm, hi, hk => by
    have hi : i < xs.length := by omega
    have hl : ((xs.take i).map zat ++ xs.drop i).length = xs.length := by simp; omega
    have e : rd_T39 ((xs.take i).map zat ++ xs.drop i) (i : Int) = xs[i] := by
      unfold rd_T39
      rw [Int.toNat_natCast, List.getD_eq_getElem?_getD, List.getElem?_append_right (by simp; omega)]
      simp only [List.length_map, List.length_take, Nat.min_eq_left (Nat.le_of_lt hi), Nat.sub_self]
      rw [List.getElem?_drop, Nat.add_zero, List.getElem?_eq_getElem hi]; rfl
    rw [← placeless_l0 xs hx m (i + 1) k (by omega) (by omega) (by omega)]
    rw [entrepotlaw19_placeless.l0, if_pos (by rw [hl]; omega), if_pos (by omega), show wrap64 ((i : Int) + 1) = ((i + 1 : Nat) : Int) by unfold wrap64; omega, e]
    congr 1
    rw [Int.toNat_natCast, List.set_append_right _ _ (by simp; omega)]
    simp only [List.length_map, List.length_take, Nat.min_eq_left (Nat.le_of_lt hi), Nat.sub_self]
    rw [List.drop_eq_getElem_cons hi, List.set_cons_zero, List.take_succ_eq_append_getElem hi, List.map_append, List.append_assoc]
    rfl
theorem placeless_ev (L : List S38) (h : L.length ≤ 100000) : Ev (fun k => entrepotlaw19_placeless.f k L) (L.map pless) := by
  unfold entrepotlaw19_placeless.f
  refine Ev.bind (its_ev L h) ⟨L.length + 1, fun k hk => ?_⟩
  have := placeless_l0 (L.map to39) (by simpa using h) L.length 0 k (by simp) (by simp) (by omega)
  simp only [List.take_zero, List.map_nil, List.nil_append, List.drop_zero, List.map_map] at this
  exact this
theorem same_ev (L : List S39) (h : L.length ≤ 100000) : Ev (fun k => entrepotref19_Same.f k L L) true := ⟨L.length + 1, fun k hk => same_f L h k (by omega)⟩
theorem back_l0 (L : List S38) (hL : L.length ≤ 200) (t : ByteArray) (its : List S38) (d0 d1 : Int) : ∀ (m i k : Nat), L.length - i = m → i ≤ L.length →
    entrepotlaw19_JsonicBack.l0 (k + m) L t its ((L.take i).map clean) (i : Int) d0 d1 = entrepotlaw19_JsonicBack.l0 k L t its (L.map clean) (L.length : Int) d0 d1
  | 0, i, k, hm, hi => by
    have e : i = L.length := by omega
    rw [e, List.take_length]; rfl
  | m + 1, i, k, hm, hi => by
    have hi : i < L.length := by omega
    rw [← back_l0 L hL t its d0 d1 m (i + 1) k (by omega) (by omega)]
    have hlen : ((L.take i).map clean).length < 3518437208883 := by simp; omega
    show entrepotlaw19_JsonicBack.l0 ((k + m) + 1) L t its _ _ _ _ = _
    rw [entrepotlaw19_JsonicBack.l0, if_pos (by omega), if_pos (by omega), rd38 L i hi, show wrap64 ((i : Int) + 1) = ((i + 1 : Nat) : Int) by unfold wrap64; omega]
    simp only [if_pos hlen]
    have ha : ∀ c : S39, c = clean L[i] → entrepotlaw19_JsonicBack.l0 (k + m) L t its ((L.take i).map clean ++ [c]) ((i + 1 : Nat) : Int) d0 d1 = entrepotlaw19_JsonicBack.l0 (k + m) L t its ((L.take (i + 1)).map clean) ((i + 1 : Nat) : Int) d0 d1 := fun c hc => by
      rw [hc, List.take_succ_eq_append_getElem hi, List.map_append]; rfl
    generalize L[i] = x at ha
    obtain ⟨y0, y1, y2, y3⟩ := x
    simp only [clean] at ha
    by_cases h1 : y0 = 1
    · subst h1
      rw [if_pos rfl, if_neg (show ¬ (1 : Int) = 2 by decide), if_neg (show ¬ (1 : Int) = 6 by decide)]
      exact ha _ (by simp; rfl)
    · rw [if_neg h1]
      by_cases h2 : y0 = 2
      · subst h2
        rw [if_pos rfl]
        exact ha _ (by simp)
      · rw [if_neg h2]
        by_cases h6 : y0 = 6
        · subst h6
          rw [if_pos rfl]
          exact ha _ (by simp)
        · rw [if_neg h6]
          exact ha _ (by simp [h1, h2, h6]; rfl)
theorem print_len {L : List S38} {o : List UInt8} (M : Nat) (h : Js.print L = some o) (hx : ∀ x ∈ L, x.f2.size ≤ M) : o.length ≤ L.length * (6 * M + 30) := by
  unfold Js.print at h
  have hf := (Js.fits_all (2 * L.length + 1)).1 0 L
  cases hv : Js.pval (2 * L.length + 1) 0 L with
  | none => rw [hv] at h; cases h
  | some p =>
    obtain ⟨o', r⟩ := p
    rw [hv] at h
    have := hf o' r hv
    cases r with
    | cons x r => cases h
    | nil =>
      simp only [Js.whole, Option.some.injEq] at h
      subst h
      have := Js.osz_le M L hx
      omega
theorem parse_f {a0 : ByteArray} (h : a0.size ≤ 1000000000) : jsonic_Parse.f a0 = some (parseR (Js.parse a0.data.toList)) := by unfold jsonic_Parse.f; rw [if_pos h]
theorem back_j2 (t : ByteArray) (ht : t.size ≤ 1000) : Ev (fun k => entrepotlaw19_JsonicBack.j2 k t) true := by
  cases hp : Js.parse t.data.toList with
  | bad a c =>
    refine Ev.one fun k => ?_
    simp only [entrepotlaw19_JsonicBack.j2]
    have hc : c ≠ 0 := by rcases Js.parse_code hp with h | h <;> omega
    rw [parse_f (by omega), hp, show parseR (.bad a c) = ([], a, c) from rfl, Option.bind_some, if_neg (show ¬ (([], a, c) : List S38 × Int × Int).2.2 = 0 from hc)]; rfl
  | ok l its =>
    obtain ⟨⟨o, ho⟩, hg⟩ := Js.print_parsed hp
    have hw := Js.parse_within hp
    rw [size_len] at hw hg
    have hfine : FineP its := ⟨by omega, fun x hx => by have := hg x hx; unfold Js.Good at this; omega⟩
    have hpf : jsonic_Print.f its = some (S o, true) := by unfold jsonic_Print.f; rw [if_pos hfine, ho]; rfl
    have hol := print_len 1000 ho (fun x hx => by have := (hg x hx).2.2.2; omega)
    have hmul : its.length * (6 * 1000 + 30) ≤ 1000 * (6 * 1000 + 30) := Nat.mul_le_mul_right _ (by omega)
    obtain ⟨its2, hp2, hm⟩ := Js.parse_print ho
    have hpl : its2.map pless = its.map pless := by
      rw [hm]
      exact List.map_congr_left fun x hx => (hg x hx).1.symm
    have hlen2 : its2.length = its.length := by have := congrArg List.length hpl; simpa using this
    have hp2f : jsonic_Parse.f (S o) = some (its2, 0, 0) := by rw [parse_f (by rw [S_size]; omega), S_data, hp2]; rfl
    refine Ev.step (f := fun k => (entrepotlaw19_placeless.f k its).bind fun t210 => (entrepotlaw19_placeless.f k its2).bind fun t213 => (entrepotref19_Same.f k t210 t213).bind fun t216 => some t216) (fun k => ?_) ?_
    · simp only [entrepotlaw19_JsonicBack.j2]
      rw [parse_f (by omega), hp, Option.bind_some]
      simp only [parseR]
      rw [if_pos trivial, hpf, Option.bind_some, hp2f, Option.bind_some, if_pos rfl]
      exact if_pos (by rfl)
    · refine Ev.bind (placeless_ev its (by omega)) (Ev.bind (placeless_ev its2 (by omega)) ?_)
      rw [hpl]
      exact Ev.bind (same_ev _ (by simp; omega)) (Ev.now _)
theorem jsonicBack_ev (L : List S38) (t : ByteArray) (hn : ∀ x ∈ L, -9223372036854775808 ≤ x.f1 ∧ x.f1 ≤ 9223372036854775807) : ∃ k, entrepotlaw19_JsonicBack.f k L t = some true := by
  suffices h : Ev (fun k => entrepotlaw19_JsonicBack.f k L t) true from h.rounds
  unfold entrepotlaw19_JsonicBack.f
  have hsh : Ev (fun k => entrepotlaw19_JsonicBack.j0 k L t true) true := Ev.one fun k => by
    simp only [entrepotlaw19_JsonicBack.j0, if_true]; rfl
  obtain ⟨b, h1, h2⟩ := long_f L
  refine Ev.bind h1 ?_
  cases b with
  | true => exact Ev.pos rfl hsh
  | false =>
    refine Ev.neg (by decide) ?_
    obtain ⟨hl, hx⟩ := h2 rfl
    by_cases ht : (t.size : Int) > 1000
    · exact Ev.pos ht hsh
    · refine Ev.neg ht ?_
      have hfine : FineP L := ⟨by omega, fun x h => ⟨by have := hx x h; omega, (hn x h).1, (hn x h).2⟩⟩
      show Ev (fun k => entrepotlaw19_JsonicBack.j0 k L t false) true
      have hp : jsonic_Print.f L = some (printR (Js.print L)) := by unfold jsonic_Print.f; rw [if_pos hfine]
      cases ho : Js.print L with
      | none =>
        rw [ho] at hp
        refine Ev.step (f := fun k => entrepotlaw19_JsonicBack.j2 k t) (fun k => ?_) (back_j2 t (by omega))
        simp only [entrepotlaw19_JsonicBack.j0]
        rw [if_neg (by decide), hp, Option.bind_some]
        rfl
      | some o =>
        rw [ho] at hp
        have hol := print_len 200 ho hx
        have hmul : L.length * (6 * 200 + 30) ≤ 200 * (6 * 200 + 30) := Nat.mul_le_mul_right _ hl
        obtain ⟨its, hp2, hm⟩ := Js.parse_print ho
        have hlen2 : its.length = L.length := by have := congrArg List.length hm; simpa using this
        have hpf : jsonic_Parse.f (S o) = some (its, 0, 0) := by rw [parse_f (by rw [S_size]; omega), S_data, hp2]; rfl
        refine Ev.step (f := fun k => entrepotlaw19_JsonicBack.l0 k L t its [] 0 0 0) (fun k => ?_) ?_
        · simp only [entrepotlaw19_JsonicBack.j0]
          rw [if_neg (by decide), hp, Option.bind_some]
          show (jsonic_Parse.f (S o)).bind _ = _
          rw [hpf, Option.bind_some]
        · have hend : Ev (fun k => entrepotlaw19_JsonicBack.l0 k L t its (L.map clean) (L.length : Int) 0 0) true := by
            refine Ev.step (f := fun k => (entrepotlaw19_placeless.f k its).bind fun t192 => (entrepotref19_Same.f k t192 (L.map clean)).bind fun t195 => if t195 = true then entrepotlaw19_JsonicBack.j2 k t else some false) (fun k => ?_) ?_
            · simp only [entrepotlaw19_JsonicBack.l0]
              rw [if_neg (by omega), if_neg (by decide)]
            · refine Ev.bind (placeless_ev its (by omega)) ?_
              rw [hm]
              exact Ev.bind (same_ev _ (by simp; omega)) (Ev.pos rfl (back_j2 t (by omega)))
          obtain ⟨K, hK⟩ := hend
          refine ⟨K + L.length, fun k hk => ?_⟩
          have := back_l0 L hl t its 0 0 L.length 0 (k - L.length) (by omega) (by omega)
          rw [show k - L.length + L.length = k by omega] at this
          exact this.trans (hK (k - L.length) (by omega))
end Go.Proofs.YtainnkpoibgkcaaDoor
