/- jsonic: shown, walked by hand. Conditions: the listed variables. -/
import Derived.Test.YtainnkpoibgkcaaDoorGivenW
namespace Go.Proofs.YtainnkpoibgkcaaDoor
set_option linter.unusedVariables false
set_option linter.unusedSimpArgs false
open Go.RowKit Go.Proofs.YtainnkpoibgkcaaDoor.PAll Go.Proofs.YtainnkpoibgkcaaDoorW.PrintWords Go.Proofs.YtainnkpoibgkcaaDoorW.PrintLast

theorem shown_p1 : Js.parse [32, 91, 49, 44, 34, 97, 34, 93] = .ok [] [⟨3, 0, ⟨#[]⟩, 1⟩, ⟨1, 1, ⟨#[]⟩, 2⟩, ⟨2, 0, ⟨#[97]⟩, 4⟩, ⟨5, 0, ⟨#[]⟩, 7⟩] := by kernel_rfl
theorem shown_p2 : Js.parse [123, 34, 107, 34, 58, 91, 93, 125] = .ok [] [⟨4, 0, ⟨#[]⟩, 0⟩, ⟨6, 0, ⟨#[107]⟩, 1⟩, ⟨3, 0, ⟨#[]⟩, 5⟩, ⟨5, 0, ⟨#[]⟩, 6⟩, ⟨5, 0, ⟨#[]⟩, 7⟩] := by kernel_rfl
theorem shown_p3 : Js.parse [91, 49, 44, 93] = .bad 3 190 := by kernel_rfl
theorem shown_pr : Js.print [⟨3, 0, ⟨#[]⟩, 1⟩, ⟨1, 1, ⟨#[]⟩, 2⟩, ⟨2, 0, ⟨#[97]⟩, 4⟩, ⟨5, 0, ⟨#[]⟩, 7⟩] = some [91, 49, 44, 34, 97, 34, 93] := by kernel_rfl
theorem C_of_own {w : World} {base n : Nat} {v : Value} {l : List S38} (h : w.ownsRow base 38 4 v n (flat l)) : ∃ A c, v = .slice A l.length c ∧ l.length ≤ c ∧ Kd.C k38 w A l.length l := by
  obtain ⟨A, c, h1, h2, h3⟩ := Kd.R_reads (R_of_own h)
  exact ⟨A, c, h1, h2, h3⟩
/-- A cell of a row of its own. -/
theorem own_cell {w : World} {base g n c : Nat} {xs : List Value} (h : w.ownsRow base 38 4 (.slice (some ⟨g, 0, none⟩) n c) n xs) (j : Nat) (u : Value) (hj : xs[j]? = some u) : w.cell? ⟨g, j, none⟩ = some u := by
  have := h.cells (g := g) rfl j u hj
  rwa [add_flat, Nat.zero_add] at this
set_option maxRecDepth 100000 in
set_option maxHeartbeats 4000000 in
theorem shown_walk (w : World) (HT : Tab w) : Calls Tryd.prog 9 #[] w fun e w' => e = .returned (.bool true) ∧ Below w.heap.size w w' := by
  have h1 := parse_walk ⟨#[32, 91, 49, 44, 34, 97, 34, 93]⟩ w (by decide) HT
  simp only [show (⟨#[32, 91, 49, 44, 34, 97, 34, 93]⟩ : ByteArray).data.toList = [32, 91, 49, 44, 34, 97, 34, 93] from rfl, shown_p1] at h1
  replace h1 := Aside0.mk h1
  have HT0 := Aside0.mk HT
  clear HT
  go_enter Tryd.func9, Tryd.ntmps9
  go_wp2_with fail
  refine h1.out.mono ?_
  rintro e W1 ⟨v, rfl, o1, b1⟩
  obtain ⟨g1, cp1, rfl⟩ := own_form (n := 3) o1
  obtain ⟨W2, hW2⟩ : ∃ W, W1.alloc (.cells #[.int .i64 0, .int .i64 0] 34) = W := ⟨_, rfl⟩
  have hO : W2.ownsRow w.heap.size 38 4 (.slice (some ⟨g1, 0, none⟩) 4 cp1) 4 _ := hW2 ▸ o1.alloc (.cells #[.int .i64 0, .int .i64 0] 34)
  have hb2 : Below w.heap.size w W2 := by rw [← hW2]; exact b1.alloc (b1.size) _
  have hd2 : W2.heap[W1.heap.size]? = some (.cells #[.int .i64 0, .int .i64 0] 34 (0, 0)) := by rw [← hW2]; exact Array.getElem?_push_size
  obtain ⟨A1, c1, e1, hc1, hC1⟩ := C_of_own hO
  cases e1
  have hpr := print_walk (some ⟨g1, 0, none⟩) cp1 _ W2 (HT0.out.below hb2) hC1 hc1 (by decide)
  have hpr : Calls Tryd.prog 10 #[.slice (some ⟨g1, 0, none⟩) 4 cp1] W2 fun e w' => e = .returned (.tuple #[.string ⟨#[91, 49, 44, 34, 97, 34, 93]⟩, .bool true]) ∧ Below W2.heap.size W2 w' := hpr.mono fun e w' h => by
    obtain ⟨hb, h⟩ := h
    rw [shown_pr] at h
    exact ⟨h, hb⟩
  obtain ⟨dg1, hdg1⟩ : ∃ x, W1.heap.size = x := ⟨_, rfl⟩
  have HO1 := Aside0.mk hO
  have HD1 := Aside0.mk (hdg1 ▸ hd2)
  have HB := Aside0.mk hb2
  replace hpr := Aside0.mk hpr
  replace hW2 := Aside0.mk hW2
  replace hdg1 := Aside0.mk hdg1
  clear b1 o1 h1 hO hb2 hd2 hC1 hc1
  go_wp2_with fail
  rw [hW2.out, hdg1.out]
  clear hW2 hdg1
  refine hpr.out.mono ?_
  rintro e W3 ⟨rfl, b3⟩
  replace HO1 := Aside0.mk (HO1.out.kept (row := none) (grown_below b3 none) (.inr (by simp [Value.ownBlock])))
  replace HD1 := Aside0.mk ((b3.block dg1 (Array.getElem?_eq_some_iff.1 HD1.out).1).trans HD1.out)
  replace HB := Aside0.mk (HB.out.trans (b3.mono HB.out.size))
  have h2 := parse_walk ⟨#[123, 34, 107, 34, 58, 91, 93, 125]⟩ W3 (by decide) (HT0.out.below HB.out)
  simp only [show (⟨#[123, 34, 107, 34, 58, 91, 93, 125]⟩ : ByteArray).data.toList = [123, 34, 107, 34, 58, 91, 93, 125] from rfl, shown_p2] at h2
  replace h2 := Aside0.mk h2
  clear b3 hpr
  go_wp2_with fail
  refine h2.out.mono ?_
  rintro e W4 ⟨v, rfl, o2, b4⟩
  obtain ⟨g2, cp2, rfl⟩ := own_form (n := 4) o2
  replace HO1 := Aside0.mk (HO1.out.kept (row := none) (grown_below b4 none) (.inr (by simp [Value.ownBlock])))
  replace HD1 := Aside0.mk ((b4.block dg1 (Array.getElem?_eq_some_iff.1 HD1.out).1).trans HD1.out)
  replace HB := Aside0.mk (HB.out.trans (b4.mono HB.out.size))
  obtain ⟨W5, hW5⟩ : ∃ W, W4.alloc (.cells #[.int .i64 0, .int .i64 0] 34) = W := ⟨_, rfl⟩
  have b5 : Below W4.heap.size W4 W5 := by rw [← hW5]; exact (Below.refl _ _).alloc (Nat.le_refl _) _
  have hd5 : W5.heap[W4.heap.size]? = some (.cells #[.int .i64 0, .int .i64 0] 34 (0, 0)) := by rw [← hW5]; exact Array.getElem?_push_size
  have HO2 := Aside0.mk (o2.kept (row := none) (grown_below b5 none) (.inr (by simp [Value.ownBlock])))
  replace HO1 := Aside0.mk (HO1.out.kept (row := none) (grown_below b5 none) (.inr (by simp [Value.ownBlock])))
  replace HD1 := Aside0.mk ((b5.block dg1 (Array.getElem?_eq_some_iff.1 HD1.out).1).trans HD1.out)
  replace HB := Aside0.mk (HB.out.trans (b5.mono HB.out.size))
  have h3 := parse_walk ⟨#[91, 49, 44, 93]⟩ W5 (by decide) (HT0.out.below HB.out)
  simp only [show (⟨#[91, 49, 44, 93]⟩ : ByteArray).data.toList = [91, 49, 44, 93] from rfl, shown_p3] at h3
  replace h3 := Aside0.mk h3
  obtain ⟨dg2, hdg2⟩ : ∃ x, W4.heap.size = x := ⟨_, rfl⟩
  have HD2 := Aside0.mk (hdg2 ▸ hd5)
  replace hW5 := Aside0.mk hW5
  replace hdg2 := Aside0.mk hdg2
  clear b4 b5 o2 h2 hd5
  go_wp2_with fail
  rw [hW5.out, hdg2.out]
  refine h3.out.mono ?_
  rintro e W6 ⟨rfl, b6⟩
  clear hW5 hdg2
  replace HO1 := Aside0.mk (HO1.out.kept (row := none) (grown_below b6 none) (.inr (by simp [Value.ownBlock])))
  replace HO2 := Aside0.mk (HO2.out.kept (row := none) (grown_below b6 none) (.inr (by simp [Value.ownBlock])))
  replace HD1 := Aside0.mk ((b6.block dg1 (Array.getElem?_eq_some_iff.1 HD1.out).1).trans HD1.out)
  replace HD2 := Aside0.mk ((b6.block dg2 (Array.getElem?_eq_some_iff.1 HD2.out).1).trans HD2.out)
  replace HB := Aside0.mk (HB.out.trans (b6.mono HB.out.size))
  have l0 : (W6.alloc (.cells #[.int .i64 3, .int .i64 190] 34)).cell? ⟨g1, 0, none⟩ = some (.int .i64 3) := cell_alloc (own_cell HO1.out 0 _ rfl)
  have l1 : (W6.alloc (.cells #[.int .i64 3, .int .i64 190] 34)).cell? ⟨g1, 1, none⟩ = some (.int .i64 0) := cell_alloc (own_cell HO1.out 1 _ rfl)
  have l2 : (W6.alloc (.cells #[.int .i64 3, .int .i64 190] 34)).cell? ⟨g1, 2, none⟩ = some (.string ⟨#[]⟩) := cell_alloc (own_cell HO1.out 2 _ rfl)
  have l3 : (W6.alloc (.cells #[.int .i64 3, .int .i64 190] 34)).cell? ⟨g1, 3, none⟩ = some (.int .i64 1) := cell_alloc (own_cell HO1.out 3 _ rfl)
  have l5 : (W6.alloc (.cells #[.int .i64 3, .int .i64 190] 34)).cell? ⟨g1, 5, none⟩ = some (.int .i64 1) := cell_alloc (own_cell HO1.out 5 _ rfl)
  have l10 : (W6.alloc (.cells #[.int .i64 3, .int .i64 190] 34)).cell? ⟨g1, 10, none⟩ = some (.string ⟨#[97]⟩) := cell_alloc (own_cell HO1.out 10 _ rfl)
  have l15 : (W6.alloc (.cells #[.int .i64 3, .int .i64 190] 34)).cell? ⟨g1, 15, none⟩ = some (.int .i64 7) := cell_alloc (own_cell HO1.out 15 _ rfl)
  have m4 : (W6.alloc (.cells #[.int .i64 3, .int .i64 190] 34)).cell? ⟨g2, 4, none⟩ = some (.int .i64 6) := cell_alloc (own_cell HO2.out 4 _ rfl)
  have d10 : (W6.alloc (.cells #[.int .i64 3, .int .i64 190] 34)).cell? ⟨dg1, 0, none⟩ = some (.int .i64 0) := cell_alloc (by rw [Lib.cell_of_heap HD1.out]; rfl)
  have d11 : (W6.alloc (.cells #[.int .i64 3, .int .i64 190] 34)).cell? ⟨dg1, 1, none⟩ = some (.int .i64 0) := cell_alloc (by rw [Lib.cell_of_heap HD1.out]; rfl)
  have d20 : (W6.alloc (.cells #[.int .i64 3, .int .i64 190] 34)).cell? ⟨dg2, 0, none⟩ = some (.int .i64 0) := cell_alloc (by rw [Lib.cell_of_heap HD2.out]; rfl)
  have d21 : (W6.alloc (.cells #[.int .i64 3, .int .i64 190] 34)).cell? ⟨dg2, 1, none⟩ = some (.int .i64 0) := cell_alloc (by rw [Lib.cell_of_heap HD2.out]; rfl)
  have HF : Aside0 (Below w.heap.size w (W6.alloc (.cells #[.int .i64 3, .int .i64 190] 34))) := ⟨HB.out.alloc HB.out.size _⟩
  clear b6 h3
  go_wp2_with fail
  go_ret
  exact ⟨rfl, HF.out⟩
def entrepotlaw19_shown.f : Option Bool := some true
theorem entrepotlaw19_shown.calls (r : Bool) (w : World) (HT : Tab w) (h : entrepotlaw19_shown.f = some r) : Calls Tryd.prog 9 #[] w fun e w' => e = .returned (.bool r) ∧ Below w.heap.size w w' := by
  obtain rfl := Option.some.inj h
  exact shown_walk w HT
end Go.Proofs.YtainnkpoibgkcaaDoor
