/- jsonic: shown, walked by hand. Conditions: the listed variables. -/
import Derived.Test.YtainnkpoibgkcaaDoorGivenV
namespace Go.Proofs.YtainnkpoibgkcaaDoor
set_option linter.unusedVariables false
set_option linter.unusedSimpArgs false
open Go.RowKit Go.Proofs.YtainnkpoibgkcaaDoor.PAll Go.Proofs.YtainnkpoibgkcaaDoorW.PrintWords Go.Proofs.YtainnkpoibgkcaaDoorW.PrintLast

namespace Js
/-- The text of items. -/
def whole (R : Pr) : Option (List UInt8) := match R with
  | some (o, []) => some o
  | _ => none
def print (l : List S38) : Option (List UInt8) := whole (pval (2 * l.length + 1) 0 l)
theorem itoa_ne (n : Int) : Lib.itoa n ≠ [] := by
  have hn : ∀ u, 0 < (Lib.decDigits u).length := fun u => by
    rw [Lib.decDigits_length]; unfold Lib.nDigits; split <;> omega
  unfold Lib.itoa
  split
  · simp
  · intro h
    have := hn n.toNat
    rw [h] at this; simp at this
theorem pval_ne (k d : Nat) (l : List S38) (o : List UInt8) (r : List S38) (h : pval k d l = some (o, r)) : o ≠ [] := by
  have hp : ∀ (b : UInt8) (R : Pr), pre [b] R = some (o, r) → o ≠ [] := fun b R h => by
    cases R with
    | none => cases h
    | some p => obtain ⟨o', r'⟩ := p; simp only [pre, Option.some.injEq, Prod.mk.injEq] at h; rw [← h.1]; simp
  cases k with
  | zero => simp [pval] at h
  | succ k =>
    cases l with
    | nil => simp [pval] at h
    | cons x s =>
      simp only [pval] at h
      split at h
      · split at h
        · simp only [Option.some.injEq, Prod.mk.injEq] at h
          rw [← h.1]; exact itoa_ne _
        · cases h
      · split at h
        · unfold pq at h
          split at h
          · rename_i q hq
            simp only [Option.some.injEq, Prod.mk.injEq] at h
            rw [← h.1]
            unfold quote at hq
            split at hq
            · obtain rfl := Option.some.inj hq; simp
            · cases hq
          · cases h
        · split at h
          · cases h
          · split at h
            · exact hp _ _ h
            · split at h
              · exact hp _ _ h
              · cases h
theorem osz_le (M : Nat) : ∀ (l : List S38), (∀ x ∈ l, x.f2.size ≤ M) → osz l ≤ l.length * (6 * M + 30)
  | [], _ => by simp [osz]
  | x :: l, h => by
    have h1 := h x List.mem_cons_self
    have h2 := osz_le M l (fun y hy => h y (List.mem_cons_of_mem _ hy))
    simp only [osz, List.length_cons, Nat.add_mul]
    omega
end Js
theorem add_flat (g o j : Nat) : (⟨g, o, none⟩ : Addr).add j = ⟨g, o + j, none⟩ := by
  unfold Addr.add
  by_cases h : j = 0
  · simp [h]
  · simp [h]
theorem rdI_of_C {w : World} : ∀ (l : List S38) (A : Option Addr) (n : Nat), n = l.length → Kd.C k38 w A n l → RdI w w.heap.size A l := by
  intro l A n hn h
  subst hn
  cases l with
  | nil => trivial
  | cons x r =>
    have hh : ∀ i, i < (x :: r).length → ∃ ad : Addr, A = some ad ∧ _ := fun i hi => at_T38 h (i : Int) (by omega) (by omega)
    obtain ⟨ad, hA, h00, _⟩ := hh 0 (by simp)
    have hsp : ad.spot = none := by
      unfold World.cell? at h00
      split at h00
      · rename_i hb
        cases hs : ad.spot with
        | none => rfl
        | some z => simp [Addr.add, hs] at h00
      · cases h00
    obtain ⟨g, o, sp⟩ := ad
    simp only at hsp
    subst hsp
    have hc : ∀ i (hi : i < (x :: r).length), w.cell? ⟨g, o + i * 4, none⟩ = some (.int .i64 ((x :: r)[i]'hi).f0) ∧ w.cell? ⟨g, o + i * 4 + 1, none⟩ = some (.int .i64 ((x :: r)[i]'hi).f1) ∧ w.cell? ⟨g, o + i * 4 + 2, none⟩ = some (.string ((x :: r)[i]'hi).f2) ∧ w.cell? ⟨g, o + i * 4 + 3, none⟩ = some (.int .i64 ((x :: r)[i]'hi).f3) := by
      intro i hi
      obtain ⟨ad', hA', d0, d1, d2, d3⟩ := at_T38 h (i : Int) (by omega) (by omega)
      have : ad' = ⟨g, o, none⟩ := Option.some.inj (hA'.symm.trans hA)
      subst this
      have e : rd_T38 (x :: r) (i : Int) = (x :: r)[i]'hi := by
        unfold rd_T38
        rw [Int.toNat_natCast, List.getD_eq_getElem?_getD, List.getElem?_eq_getElem hi]; rfl
      rw [e] at d0 d1 d2 d3
      simp only [Int.toNat_natCast, add_flat] at d0 d1 d2 d3
      exact ⟨d0, d1, d2, d3⟩
    have hg : g < w.heap.size := World.block_lt_of_cell? w _ h00
    rw [hA]
    have main : ∀ (m : List S38) (o : Nat), (∀ i (hi : i < m.length), w.cell? ⟨g, o + i * 4, none⟩ = some (.int .i64 (m[i]'hi).f0) ∧ w.cell? ⟨g, o + i * 4 + 1, none⟩ = some (.int .i64 (m[i]'hi).f1) ∧ w.cell? ⟨g, o + i * 4 + 2, none⟩ = some (.string (m[i]'hi).f2) ∧ w.cell? ⟨g, o + i * 4 + 3, none⟩ = some (.int .i64 (m[i]'hi).f3)) → RdI w w.heap.size (some ⟨g, o, none⟩) m := by
      intro m
      induction m with
      | nil => intro o _; trivial
      | cons y s ih =>
        intro o hm
        have h0 := hm 0 (by simp)
        simp only [Nat.zero_mul, Nat.add_zero, List.getElem_cons_zero] at h0
        refine ⟨g, o, rfl, hg, h0.1, h0.2.1, h0.2.2.1, h0.2.2.2, ih (o + 4) fun i hi => ?_⟩
        have := hm (i + 1) (by simpa using hi)
        simp only [List.getElem_cons_succ] at this
        rw [show o + (i + 1) * 4 = o + 4 + i * 4 by omega] at this
        exact this
    exact main (x :: r) o hc
def FineP (l : List S38) : Prop := l.length ≤ 1000000 ∧ ∀ x ∈ l, x.f2.size ≤ 1000000 ∧ -9223372036854775808 ≤ x.f1 ∧ x.f1 ≤ 9223372036854775807
instance (l : List S38) : Decidable (FineP l) := by unfold FineP; infer_instance
def PrPost (l : List S38) (w : World) (e : Ending) (w' : World) : Prop := Below w.heap.size w w' ∧ match Js.print l with
  | some o => e = .returned (.tuple #[.string (S o), .bool true])
  | none => e = .returned (.tuple #[.string ByteArray.empty, .bool false])
set_option maxRecDepth 100000 in
set_option maxHeartbeats 4000000 in
theorem print_walk (A : Option Addr) (c : Nat) (l : List S38) (w : World) (HT : Tab w) (hC : Kd.C k38 w A l.length l) (hc : l.length ≤ c) (hF : FineP l) :
    Calls Tryd.prog 10 #[.slice A l.length c] w fun e w' => PrPost l w e w' := by
  have hR := rdI_of_C l A _ rfl hC
  have hws : WS (w.alloc (.cells #[.pointer none, .slice none 0 0, .slice A l.length c] 52)) w.heap.size w.heap.size l [] :=
    ⟨A, c, ⟨Nat.le_refl _, .pointer none, .slice none 0 0, .inl rfl, Array.getElem?_push_size, World.ownsRow_nil _ _ _ _⟩, hR.below ((Below.refl _ _).alloc (Nat.le_refl _) _), hc⟩
  have hb0 : Below w.heap.size w (w.alloc (.cells #[.pointer none, .slice none 0 0, .slice A l.length c] 52)) := (Below.refl _ _).alloc (Nat.le_refl _) _
  have hfine : Fine l := fun x hx => ⟨by have := (hF.2 x hx).1; omega, (hF.2 x hx).2⟩
  have hosz := Js.osz_le 1000000 l (fun x hx => (hF.2 x hx).1)
  have hsz : ([] : List UInt8).length + Js.osz l ≤ 140737488355328 := by
    have h1 := hF.1
    have : l.length * (6 * 1000000 + 30) ≤ 1000000 * (6 * 1000000 + 30) := Nat.mul_le_mul_right _ h1
    simp only [List.length_nil]; omega
  have hv := value_vc l.length (2 * l.length + 1) 0 l _ w.heap.size w.heap.size [] (Nat.le_refl _) (Nat.le_refl _) (by omega) hfine hsz (fun w' h => HT.below (hb0.trans h)) hws
  replace hv := Aside0.mk hv
  have HB := Aside0.mk hb0
  obtain ⟨n, hn⟩ : ∃ n, l.length = n := ⟨_, rfl⟩
  obtain ⟨R, hRR⟩ : ∃ R, Js.pval (2 * l.length + 1) 0 l = R := ⟨_, rfl⟩
  have HP : Aside0 (Js.print l = Js.whole R) := ⟨by unfold Js.print; rw [hRR]⟩
  have HNE : Aside0 (∀ o r, R = some (o, r) → o ≠ []) := ⟨fun o r h => Js.pval_ne _ _ _ _ _ (hRR.trans h)⟩
  rw [hRR] at hv
  rw [hn] at hv HB ⊢
  clear hR hws hb0 hfine hosz hsz hRR hC hF hn HT
  go_enter Tryd.func10, Tryd.ntmps10
  go_wp2_with fail
  refine hv.out.mono ?_
  intro e W1 h
  have hNE := HNE.out
  cases R with
  | none =>
    obtain ⟨b1, rfl⟩ := h
    have HF := Aside0.mk (HB.out.trans b1.1)
    clear b1 hv hNE
    go_wp2_with fail
    go_ret2
    refine ⟨HF.out, ?_⟩
    rw [HP.out]; rfl
  | some p =>
    obtain ⟨o, r⟩ := p
    obtain ⟨b1, rfl, m1⟩ := h
    have ho := hNE o r rfl
    obtain ⟨A', c', c2, _⟩ := m1.cells
    have M1 := Aside0.mk m1
    have HF := Aside0.mk (HB.out.trans b1.1)
    clear b1 hv hNE HNE m1 hc
    cases r with
    | cons y s =>
      have hpos : (0 : Int) < ((y :: s).length : Int) := by simp
      obtain ⟨m, hm⟩ : ∃ m, (y :: s).length = m := ⟨_, rfl⟩
      rw [hm] at c2 hpos
      clear hm
      go_wp2_with fail
      go_ret2
      refine ⟨HF.out, ?_⟩
      rw [HP.out]; rfl
    | nil =>
      have c2 : W1.cell? ⟨w.heap.size, 2, none⟩ = some (.slice A' 0 c') := c2
      obtain ⟨A2, c3, hB, _, _⟩ := M1.out
      have hst := Aside0.mk (string_calls begins52 (l := o) (by simpa using hB) ho)
      clear hB ho
      go_wp2_with fail
      refine hst.out.mono ?_
      rintro e W2 ⟨rfl, b2, _⟩
      have HF2 := Aside0.mk (HF.out.trans b2)
      clear b2 hst
      go_wp2_with fail
      go_ret2
      refine ⟨HF2.out, ?_⟩
      rw [HP.out]; rfl
def printR (q : Option (List UInt8)) : ByteArray × Bool := match q with
  | some q => (S q, true)
  | none => (ByteArray.empty, false)
def jsonic_Print.f (l0 : List S38) : Option (ByteArray × Bool) := if FineP l0 then some (printR (Js.print l0)) else none
theorem jsonic_Print.calls (A0 : Option Addr) (c0 : Nat) (l0 : List S38) (r : ByteArray) (r1 : Bool) (w : World) (HT : Tab w) (hr0 : Kd.C k38 w A0 l0.length l0) (hc0 : l0.length ≤ c0) (h : jsonic_Print.f l0 = some (r, r1)) :
    Calls Tryd.prog 10 #[.slice A0 l0.length c0] w fun e w' => e = .returned (.tuple #[.string r, .bool r1]) ∧ Below w.heap.size w w' := by
  unfold jsonic_Print.f at h
  split at h
  · rename_i hs
    have h := Option.some.inj h
    refine (print_walk A0 c0 l0 w HT hr0 hc0 hs).mono ?_
    rintro e w' ⟨hb, hh⟩
    refine ⟨?_, hb⟩
    cases hq : Js.print l0 with
    | some q => rw [hq] at hh h; simp only [printR, Prod.mk.injEq] at h; obtain ⟨rfl, rfl⟩ := h; exact hh
    | none => rw [hq] at hh h; simp only [printR, Prod.mk.injEq] at h; obtain ⟨rfl, rfl⟩ := h; exact hh
  · exact absurd h (by simp)
end Go.Proofs.YtainnkpoibgkcaaDoor
namespace Go.Proofs.YtainnkpoibgkcaaDoor
set_option linter.unusedVariables false
set_option linter.unusedSimpArgs false
open Go.RowKit Go.Proofs.YtainnkpoibgkcaaDoor.PAll Go.Proofs.YtainnkpoibgkcaaDoorW.PrintWords Go.Proofs.YtainnkpoibgkcaaDoorW.PrintLast

theorem shown_p1 : Js.parse [32, 91, 49, 44, 34, 97, 34, 93] = .ok [] [⟨3, 0, ⟨#[]⟩, 1⟩, ⟨1, 1, ⟨#[]⟩, 2⟩, ⟨2, 0, ⟨#[97]⟩, 4⟩, ⟨5, 0, ⟨#[]⟩, 7⟩] := by kernel_rfl
theorem shown_p2 : Js.parse [123, 34, 107, 34, 58, 91, 93, 125] = .ok [] [⟨4, 0, ⟨#[]⟩, 0⟩, ⟨6, 0, ⟨#[107]⟩, 1⟩, ⟨3, 0, ⟨#[]⟩, 5⟩, ⟨5, 0, ⟨#[]⟩, 6⟩, ⟨5, 0, ⟨#[]⟩, 7⟩] := by kernel_rfl
theorem shown_p3 : Js.parse [91, 49, 44, 93] = .bad 3 190 := by kernel_rfl
theorem shown_pr : Js.print [⟨3, 0, ⟨#[]⟩, 1⟩, ⟨1, 1, ⟨#[]⟩, 2⟩, ⟨2, 0, ⟨#[97]⟩, 4⟩, ⟨5, 0, ⟨#[]⟩, 7⟩] = some [91, 49, 44, 34, 97, 34, 93] := by kernel_rfl
theorem C_of_own {w : World} {base n : Nat} {v : Value} {l : List S38} (h : w.ownsRow base 38 4 v n (flat l)) : ∃ A c, v = .slice A l.length c ∧ l.length ≤ c ∧ Kd.C k38 w A l.length l := by
  obtain ⟨A, c, h1, h2, h3⟩ := Kd.R_reads (R_of_own h)
  exact ⟨A, c, h1, h2, h3⟩
/-- A cell of a row of its own. -/
theorem own_cell {w : World} {base g n c : Nat} {xs : List Value} (h : w.ownsRow base 38 4 (.slice (some ⟨g, 0, none⟩) n c) n xs) (j : Nat) (u : Value) (hj : xs[j]? = some u) : w.cell? ⟨g, j, none⟩ = some u := by
  have := h.cells (g := g) rfl j u hj
  rwa [add_flat, Nat.zero_add] at this
set_option maxRecDepth 100000 in
set_option maxHeartbeats 4000000 in
theorem shown_walk (w : World) (HT : Tab w) : Calls Tryd.prog 9 #[] w fun e w' => e = .returned (.bool true) ∧ Below w.heap.size w w' := by
  have h1 := parse_walk ⟨#[32, 91, 49, 44, 34, 97, 34, 93]⟩ w (by decide) HT
  simp only [show (⟨#[32, 91, 49, 44, 34, 97, 34, 93]⟩ : ByteArray).data.toList = [32, 91, 49, 44, 34, 97, 34, 93] from rfl, shown_p1] at h1
  replace h1 := Aside0.mk h1
  have HT0 := Aside0.mk HT
  clear HT
  go_enter Tryd.func9, Tryd.ntmps9
  go_wp2_with fail
  refine h1.out.mono ?_
  rintro e W1 ⟨v, rfl, o1, b1⟩
  obtain ⟨g1, cp1, rfl⟩ := own_form (n := 3) o1
  obtain ⟨W2, hW2⟩ : ∃ W, W1.alloc (.cells #[.int .i64 0, .int .i64 0] 34) = W := ⟨_, rfl⟩
  have hO : W2.ownsRow w.heap.size 38 4 (.slice (some ⟨g1, 0, none⟩) 4 cp1) 4 _ := hW2 ▸ o1.alloc (.cells #[.int .i64 0, .int .i64 0] 34)
  have hb2 : Below w.heap.size w W2 := by rw [← hW2]; exact b1.alloc (b1.size) _
  have hd2 : W2.heap[W1.heap.size]? = some (.cells #[.int .i64 0, .int .i64 0] 34 (0, 0)) := by rw [← hW2]; exact Array.getElem?_push_size
  obtain ⟨A1, c1, e1, hc1, hC1⟩ := C_of_own hO
  cases e1
  have hpr := print_walk (some ⟨g1, 0, none⟩) cp1 _ W2 (HT0.out.below hb2) hC1 hc1 (by decide)
  have hpr : Calls Tryd.prog 10 #[.slice (some ⟨g1, 0, none⟩) 4 cp1] W2 fun e w' => e = .returned (.tuple #[.string ⟨#[91, 49, 44, 34, 97, 34, 93]⟩, .bool true]) ∧ Below W2.heap.size W2 w' := hpr.mono fun e w' h => by
    obtain ⟨hb, h⟩ := h
    rw [shown_pr] at h
    exact ⟨h, hb⟩
  obtain ⟨dg1, hdg1⟩ : ∃ x, W1.heap.size = x := ⟨_, rfl⟩
  have HO1 := Aside0.mk hO
  have HD1 := Aside0.mk (hdg1 ▸ hd2)
  have HB := Aside0.mk hb2
  replace hpr := Aside0.mk hpr
  replace hW2 := Aside0.mk hW2
  replace hdg1 := Aside0.mk hdg1
  clear b1 o1 h1 hO hb2 hd2 hC1 hc1
  go_wp2_with fail
  rw [hW2.out, hdg1.out]
  clear hW2 hdg1
  refine hpr.out.mono ?_
  rintro e W3 ⟨rfl, b3⟩
  replace HO1 := Aside0.mk (HO1.out.kept (row := none) (grown_below b3 none) (.inr (by simp [Value.ownBlock])))
  replace HD1 := Aside0.mk ((b3.block dg1 (Array.getElem?_eq_some_iff.1 HD1.out).1).trans HD1.out)
  replace HB := Aside0.mk (HB.out.trans (b3.mono HB.out.size))
  have h2 := parse_walk ⟨#[123, 34, 107, 34, 58, 91, 93, 125]⟩ W3 (by decide) (HT0.out.below HB.out)
  simp only [show (⟨#[123, 34, 107, 34, 58, 91, 93, 125]⟩ : ByteArray).data.toList = [123, 34, 107, 34, 58, 91, 93, 125] from rfl, shown_p2] at h2
  replace h2 := Aside0.mk h2
  clear b3 hpr
  go_wp2_with fail
  refine h2.out.mono ?_
  rintro e W4 ⟨v, rfl, o2, b4⟩
  obtain ⟨g2, cp2, rfl⟩ := own_form (n := 4) o2
  replace HO1 := Aside0.mk (HO1.out.kept (row := none) (grown_below b4 none) (.inr (by simp [Value.ownBlock])))
  replace HD1 := Aside0.mk ((b4.block dg1 (Array.getElem?_eq_some_iff.1 HD1.out).1).trans HD1.out)
  replace HB := Aside0.mk (HB.out.trans (b4.mono HB.out.size))
  obtain ⟨W5, hW5⟩ : ∃ W, W4.alloc (.cells #[.int .i64 0, .int .i64 0] 34) = W := ⟨_, rfl⟩
  have b5 : Below W4.heap.size W4 W5 := by rw [← hW5]; exact (Below.refl _ _).alloc (Nat.le_refl _) _
  have hd5 : W5.heap[W4.heap.size]? = some (.cells #[.int .i64 0, .int .i64 0] 34 (0, 0)) := by rw [← hW5]; exact Array.getElem?_push_size
  have HO2 := Aside0.mk (o2.kept (row := none) (grown_below b5 none) (.inr (by simp [Value.ownBlock])))
  replace HO1 := Aside0.mk (HO1.out.kept (row := none) (grown_below b5 none) (.inr (by simp [Value.ownBlock])))
  replace HD1 := Aside0.mk ((b5.block dg1 (Array.getElem?_eq_some_iff.1 HD1.out).1).trans HD1.out)
  replace HB := Aside0.mk (HB.out.trans (b5.mono HB.out.size))
  have h3 := parse_walk ⟨#[91, 49, 44, 93]⟩ W5 (by decide) (HT0.out.below HB.out)
  simp only [show (⟨#[91, 49, 44, 93]⟩ : ByteArray).data.toList = [91, 49, 44, 93] from rfl, shown_p3] at h3
  replace h3 := Aside0.mk h3
  obtain ⟨dg2, hdg2⟩ : ∃ x, W4.heap.size = x := ⟨_, rfl⟩
  have HD2 := Aside0.mk (hdg2 ▸ hd5)
  replace hW5 := Aside0.mk hW5
  replace hdg2 := Aside0.mk hdg2
  clear b4 b5 o2 h2 hd5
  go_wp2_with fail
  rw [hW5.out, hdg2.out]
  refine h3.out.mono ?_
  rintro e W6 ⟨rfl, b6⟩
  clear hW5 hdg2
  replace HO1 := Aside0.mk (HO1.out.kept (row := none) (grown_below b6 none) (.inr (by simp [Value.ownBlock])))
  replace HO2 := Aside0.mk (HO2.out.kept (row := none) (grown_below b6 none) (.inr (by simp [Value.ownBlock])))
  replace HD1 := Aside0.mk ((b6.block dg1 (Array.getElem?_eq_some_iff.1 HD1.out).1).trans HD1.out)
  replace HD2 := Aside0.mk ((b6.block dg2 (Array.getElem?_eq_some_iff.1 HD2.out).1).trans HD2.out)
  replace HB := Aside0.mk (HB.out.trans (b6.mono HB.out.size))
  have l0 : (W6.alloc (.cells #[.int .i64 3, .int .i64 190] 34)).cell? ⟨g1, 0, none⟩ = some (.int .i64 3) := cell_alloc (own_cell HO1.out 0 _ rfl)
  have l1 : (W6.alloc (.cells #[.int .i64 3, .int .i64 190] 34)).cell? ⟨g1, 1, none⟩ = some (.int .i64 0) := cell_alloc (own_cell HO1.out 1 _ rfl)
  have l2 : (W6.alloc (.cells #[.int .i64 3, .int .i64 190] 34)).cell? ⟨g1, 2, none⟩ = some (.string ⟨#[]⟩) := cell_alloc (own_cell HO1.out 2 _ rfl)
  have l3 : (W6.alloc (.cells #[.int .i64 3, .int .i64 190] 34)).cell? ⟨g1, 3, none⟩ = some (.int .i64 1) := cell_alloc (own_cell HO1.out 3 _ rfl)
  have l5 : (W6.alloc (.cells #[.int .i64 3, .int .i64 190] 34)).cell? ⟨g1, 5, none⟩ = some (.int .i64 1) := cell_alloc (own_cell HO1.out 5 _ rfl)
  have l10 : (W6.alloc (.cells #[.int .i64 3, .int .i64 190] 34)).cell? ⟨g1, 10, none⟩ = some (.string ⟨#[97]⟩) := cell_alloc (own_cell HO1.out 10 _ rfl)
  have l15 : (W6.alloc (.cells #[.int .i64 3, .int .i64 190] 34)).cell? ⟨g1, 15, none⟩ = some (.int .i64 7) := cell_alloc (own_cell HO1.out 15 _ rfl)
  have m4 : (W6.alloc (.cells #[.int .i64 3, .int .i64 190] 34)).cell? ⟨g2, 4, none⟩ = some (.int .i64 6) := cell_alloc (own_cell HO2.out 4 _ rfl)
  have d10 : (W6.alloc (.cells #[.int .i64 3, .int .i64 190] 34)).cell? ⟨dg1, 0, none⟩ = some (.int .i64 0) := cell_alloc (by rw [Lib.cell_of_heap HD1.out]; rfl)
  have d11 : (W6.alloc (.cells #[.int .i64 3, .int .i64 190] 34)).cell? ⟨dg1, 1, none⟩ = some (.int .i64 0) := cell_alloc (by rw [Lib.cell_of_heap HD1.out]; rfl)
  have d20 : (W6.alloc (.cells #[.int .i64 3, .int .i64 190] 34)).cell? ⟨dg2, 0, none⟩ = some (.int .i64 0) := cell_alloc (by rw [Lib.cell_of_heap HD2.out]; rfl)
  have d21 : (W6.alloc (.cells #[.int .i64 3, .int .i64 190] 34)).cell? ⟨dg2, 1, none⟩ = some (.int .i64 0) := cell_alloc (by rw [Lib.cell_of_heap HD2.out]; rfl)
  have HF : Aside0 (Below w.heap.size w (W6.alloc (.cells #[.int .i64 3, .int .i64 190] 34))) := ⟨HB.out.alloc HB.out.size _⟩
  clear b6 h3
  go_wp2_with fail
  go_ret
  exact ⟨rfl, HF.out⟩
def entrepotlaw19_shown.f : Option Bool := some true
theorem entrepotlaw19_shown.calls (r : Bool) (w : World) (HT : Tab w) (h : entrepotlaw19_shown.f = some r) : Calls Tryd.prog 9 #[] w fun e w' => e = .returned (.bool r) ∧ Below w.heap.size w w' := by
  obtain rfl := Option.some.inj h
  exact shown_walk w HT
end Go.Proofs.YtainnkpoibgkcaaDoor
