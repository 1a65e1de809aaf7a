-- Written by a program out of the translation, for several roots at once (set All). Not trusted: Lean checks it.
import Derived.Test.YtainnkpoibgkcaaDoorPAllx0
import Derived.Test.YtainnkpoibgkcaaDoorPAllx4
import Derived.Test.YtainnkpoibgkcaaDoorGivenX
import Derived.Test.YtainnkpoibgkcaaDoorGivenY
namespace Go.Proofs.YtainnkpoibgkcaaDoor.PAll
open Go.RowKit Go.Proofs.YtainnkpoibgkcaaDoorW.PrintWords Go.Proofs.YtainnkpoibgkcaaDoorW.PrintLast Go.Proofs.YtainnkpoibgkcaaDoorW.PrintMore
attribute [local go_sem] max2_int min2_int max_two min_two max_three min_three max_four min_four   -- for this text's walks alone
set_option linter.unusedVariables false
set_option linter.unusedSimpArgs false

/-! ### entrepotref19_printed: function 20 -/
mutual
def entrepotref19_printed.j0 : Nat → List (S39) → Int → Int → Bool → Int → Int → ByteArray → Int → Option (ByteArray × Int)
  | 0, _, _, _, _, _, _, _, _ => none
  | k + 1, x0, x1, x2, x26, x112000, x112001, x112002, x112003 => if x26 = true then ((entrepotref04_Num.f k x112001).bind fun t112 => (some (t112, wrap64 (x1 + 1)))) else (if x112000 = 2 then ((entrepotref19_Quote.f x112002).bind fun bt113 => (if bt113.2 = true then (some (bt113.1, wrap64 (x1 + 1))) else (some ((⟨#[]⟩ : ByteArray), (-1))))) else (if x112000 = 3 then (entrepotref19_printed.j1 k x0 x1 x2 (decide (x2 < 16)) x112000 x112001 x112002 x112003) else (if x112000 = 4 then (entrepotref19_printed.j1 k x0 x1 x2 (decide (x2 < 16)) x112000 x112001 x112002 x112003) else (entrepotref19_printed.j1 k x0 x1 x2 false x112000 x112001 x112002 x112003))))
def entrepotref19_printed.j1 : Nat → List (S39) → Int → Int → Bool → Int → Int → ByteArray → Int → Option (ByteArray × Int)
  | 0, _, _, _, _, _, _, _, _ => none
  | k + 1, x0, x1, x2, x60, x112000, x112001, x112002, x112003 => if x60 = true then (if x112000 = 4 then (entrepotref19_printed.j2 k x0 x1 x2 (⟨#[123]⟩ : ByteArray) (⟨#[125]⟩ : ByteArray) x112000 x112001 x112002 x112003) else (entrepotref19_printed.j2 k x0 x1 x2 (⟨#[91]⟩ : ByteArray) (⟨#[93]⟩ : ByteArray) x112000 x112001 x112002 x112003)) else (some ((⟨#[]⟩ : ByteArray), (-1)))
def entrepotref19_printed.j2 : Nat → List (S39) → Int → Int → ByteArray → ByteArray → Int → Int → ByteArray → Int → Option (ByteArray × Int)
  | 0, _, _, _, _, _, _, _, _, _ => none
  | k + 1, x0, x1, x2, x11, x12, x112000, x112001, x112002, x112003 => entrepotref19_printed.l0 k x0 (wrap64 (x1 + 1)) x2 x11 x12 0 x112000 x112001 x112002 x112003
def entrepotref19_printed.l0 : Nat → List (S39) → Int → Int → ByteArray → ByteArray → Int → Int → Int → ByteArray → Int → Option (ByteArray × Int)
  | 0, _, _, _, _, _, _, _, _, _, _ => none
  | k + 1, x0, x1, x2, x11, x12, x13, x112000, x112001, x112002, x112003 => if x1 < (x0.length : Int) then (if 0 ≤ x1 then (entrepotref19_printed.j4 k x0 x1 x2 x11 x12 x13 (((rd_T39 x0 x1).f0) != 5) x112000 x112001 x112002 x112003) else (none)) else (entrepotref19_printed.j4 k x0 x1 x2 x11 x12 x13 false x112000 x112001 x112002 x112003)
def entrepotref19_printed.j4 : Nat → List (S39) → Int → Int → ByteArray → ByteArray → Int → Bool → Int → Int → ByteArray → Int → Option (ByteArray × Int)
  | 0, _, _, _, _, _, _, _, _, _, _, _ => none
  | k + 1, x0, x1, x2, x11, x12, x13, x89, x112000, x112001, x112002, x112003 => if x89 = true then (if x13 > 0 then (if x11.size + 1 ≤ 9223372036854775807 then (entrepotref19_printed.j5 k x0 x1 x2 (x11 ++ (⟨#[44]⟩ : ByteArray)) x12 x13 x112000 x112001 x112002 x112003) else (none)) else (entrepotref19_printed.j5 k x0 x1 x2 x11 x12 x13 x112000 x112001 x112002 x112003)) else (if x1 < (x0.length : Int) then (if x11.size + x12.size ≤ 9223372036854775807 then (some (x11 ++ x12, wrap64 (x1 + 1))) else (none)) else (some ((⟨#[]⟩ : ByteArray), (-1))))
def entrepotref19_printed.j5 : Nat → List (S39) → Int → Int → ByteArray → ByteArray → Int → Int → Int → ByteArray → Int → Option (ByteArray × Int)
  | 0, _, _, _, _, _, _, _, _, _, _ => none
  | k + 1, x0, x1, x2, x11, x12, x13, x112000, x112001, x112002, x112003 => if x112000 = 4 then (if 0 ≤ x1 then (if x1 < (x0.length : Int) then ((entrepotref19_Quote.f ((rd_T39 x0 x1).f2)).bind fun bt117 => (if ((rd_T39 x0 x1).f0) = 6 then (entrepotref19_printed.j6 k x0 x1 x2 x11 x12 x13 bt117.1 (!bt117.2) x112000 x112001 x112002 x112003) else (entrepotref19_printed.j6 k x0 x1 x2 x11 x12 x13 bt117.1 true x112000 x112001 x112002 x112003))) else (none)) else (none)) else ((entrepotref19_printed.f k x0 x1 (wrap64 (x2 + 1))).bind fun bt122 => (if bt122.2 < 0 then (some ((⟨#[]⟩ : ByteArray), (-1))) else (if x11.size + bt122.1.size ≤ 9223372036854775807 then (entrepotref19_printed.l0 k x0 bt122.2 x2 (x11 ++ bt122.1) x12 (wrap64 (x13 + 1)) x112000 x112001 x112002 x112003) else (none))))
def entrepotref19_printed.j6 : Nat → List (S39) → Int → Int → ByteArray → ByteArray → Int → ByteArray → Bool → Int → Int → ByteArray → Int → Option (ByteArray × Int)
  | 0, _, _, _, _, _, _, _, _, _, _, _, _ => none
  | k + 1, x0, x1, x2, x11, x12, x13, x14, x117, x112000, x112001, x112002, x112003 => if x117 = true then (some ((⟨#[]⟩ : ByteArray), (-1))) else (if x11.size + x14.size ≤ 9223372036854775807 then (if (x11 ++ x14).size + 1 ≤ 9223372036854775807 then ((entrepotref19_printed.f k x0 (wrap64 (x1 + 1)) (wrap64 (x2 + 1))).bind fun bt120 => (if bt120.2 < 0 then (some ((⟨#[]⟩ : ByteArray), (-1))) else (if ((x11 ++ x14) ++ (⟨#[58]⟩ : ByteArray)).size + bt120.1.size ≤ 9223372036854775807 then (entrepotref19_printed.l0 k x0 bt120.2 x2 (((x11 ++ x14) ++ (⟨#[58]⟩ : ByteArray)) ++ bt120.1) x12 (wrap64 (x13 + 1)) x112000 x112001 x112002 x112003) else (none)))) else (none)) else (none))
def entrepotref19_printed.f : Nat → List (S39) → Int → Int → Option (ByteArray × Int)
  | 0, _, _, _ => none
  | k + 1, l0, a1, a2 => if a1 ≥ (l0.length : Int) then (some ((⟨#[]⟩ : ByteArray), (-1))) else (if 0 ≤ a1 then (if a1 < (l0.length : Int) then (if ((rd_T39 l0 a1).f0) = 1 then (if ((rd_T39 l0 a1).f1) ≥ (-100000000) then (entrepotref19_printed.j0 k l0 a1 a2 (decide (((rd_T39 l0 a1).f1) ≤ 100000000)) ((rd_T39 l0 a1).f0) ((rd_T39 l0 a1).f1) ((rd_T39 l0 a1).f2) ((rd_T39 l0 a1).f3)) else (entrepotref19_printed.j0 k l0 a1 a2 false ((rd_T39 l0 a1).f0) ((rd_T39 l0 a1).f1) ((rd_T39 l0 a1).f2) ((rd_T39 l0 a1).f3))) else (entrepotref19_printed.j0 k l0 a1 a2 false ((rd_T39 l0 a1).f0) ((rd_T39 l0 a1).f1) ((rd_T39 l0 a1).f2) ((rd_T39 l0 a1).f3))) else (none)) else (none))
end
theorem entrepotref19_printed.mono_l : ∀ k, (∀ y0 y1 y2, LeO (entrepotref19_printed.f k y0 y1 y2) (entrepotref19_printed.f (k + 1) y0 y1 y2)) ∧ (∀ y0 y1 y2 y3 y4 y5 y6 y7, LeO (entrepotref19_printed.j0 k y0 y1 y2 y3 y4 y5 y6 y7) (entrepotref19_printed.j0 (k + 1) y0 y1 y2 y3 y4 y5 y6 y7)) ∧ (∀ y0 y1 y2 y3 y4 y5 y6 y7, LeO (entrepotref19_printed.j1 k y0 y1 y2 y3 y4 y5 y6 y7) (entrepotref19_printed.j1 (k + 1) y0 y1 y2 y3 y4 y5 y6 y7)) ∧ (∀ y0 y1 y2 y3 y4 y5 y6 y7 y8, LeO (entrepotref19_printed.j2 k y0 y1 y2 y3 y4 y5 y6 y7 y8) (entrepotref19_printed.j2 (k + 1) y0 y1 y2 y3 y4 y5 y6 y7 y8)) ∧ (∀ y0 y1 y2 y3 y4 y5 y6 y7 y8 y9, LeO (entrepotref19_printed.l0 k y0 y1 y2 y3 y4 y5 y6 y7 y8 y9) (entrepotref19_printed.l0 (k + 1) y0 y1 y2 y3 y4 y5 y6 y7 y8 y9)) ∧ (∀ y0 y1 y2 y3 y4 y5 y6 y7 y8 y9 y10, LeO (entrepotref19_printed.j4 k y0 y1 y2 y3 y4 y5 y6 y7 y8 y9 y10) (entrepotref19_printed.j4 (k + 1) y0 y1 y2 y3 y4 y5 y6 y7 y8 y9 y10)) ∧ (∀ y0 y1 y2 y3 y4 y5 y6 y7 y8 y9, LeO (entrepotref19_printed.j5 k y0 y1 y2 y3 y4 y5 y6 y7 y8 y9) (entrepotref19_printed.j5 (k + 1) y0 y1 y2 y3 y4 y5 y6 y7 y8 y9)) ∧ (∀ y0 y1 y2 y3 y4 y5 y6 y7 y8 y9 y10 y11, LeO (entrepotref19_printed.j6 k y0 y1 y2 y3 y4 y5 y6 y7 y8 y9 y10 y11) (entrepotref19_printed.j6 (k + 1) y0 y1 y2 y3 y4 y5 y6 y7 y8 y9 y10 y11))
  | 0 => ⟨fun _ _ _ r h => by simp [entrepotref19_printed.f] at h, fun _ _ _ _ _ _ _ _ r h => by simp [entrepotref19_printed.j0] at h, fun _ _ _ _ _ _ _ _ r h => by simp [entrepotref19_printed.j1] at h, fun _ _ _ _ _ _ _ _ _ r h => by simp [entrepotref19_printed.j2] at h, fun _ _ _ _ _ _ _ _ _ _ r h => by simp [entrepotref19_printed.l0] at h, fun _ _ _ _ _ _ _ _ _ _ _ r h => by simp [entrepotref19_printed.j4] at h, fun _ _ _ _ _ _ _ _ _ _ r h => by simp [entrepotref19_printed.j5] at h, fun _ _ _ _ _ _ _ _ _ _ _ _ r h => by simp [entrepotref19_printed.j6] at h⟩
  | k + 1 => by
    obtain ⟨ih0, ih1, ih2, ih3, ih4, ih5, ih6, ih7⟩ := entrepotref19_printed.mono_l k
    refine ⟨?_, ?_, ?_, ?_, ?_, ?_, ?_, ?_⟩
    · intro y0 y1 y2
      unfold entrepotref19_printed.f
      repeat' first
      | (with_reducible exact ih0 _ _ _)
      | (with_reducible exact ih1 _ _ _ _ _ _ _ _)
      | (with_reducible exact ih2 _ _ _ _ _ _ _ _)
      | (with_reducible exact ih3 _ _ _ _ _ _ _ _ _)
      | (with_reducible exact ih4 _ _ _ _ _ _ _ _ _ _)
      | (with_reducible exact ih5 _ _ _ _ _ _ _ _ _ _ _)
      | (with_reducible exact ih6 _ _ _ _ _ _ _ _ _ _)
      | (with_reducible exact ih7 _ _ _ _ _ _ _ _ _ _ _ _)
      | (with_reducible exact entrepotref04_Num.mono _ _)
      | (with_reducible exact LeO.refl _)
      | (with_reducible exact LeO.none _)
      | (with_reducible refine LeO.ite ?_ ?_)
      | (with_reducible refine LeO.bind ?_ (fun _ => ?_))
      | exact ih0 _ _ _
      | exact ih1 _ _ _ _ _ _ _ _
      | exact ih2 _ _ _ _ _ _ _ _
      | exact ih3 _ _ _ _ _ _ _ _ _
      | exact ih4 _ _ _ _ _ _ _ _ _ _
      | exact ih5 _ _ _ _ _ _ _ _ _ _ _
      | exact ih6 _ _ _ _ _ _ _ _ _ _
      | exact ih7 _ _ _ _ _ _ _ _ _ _ _ _
      | exact entrepotref04_Num.mono _ _
      | exact LeO.none _
      | refine LeO.ite ?_ ?_
      | refine LeO.bind ?_ (fun _ => ?_)
    · intro y0 y1 y2 y3 y4 y5 y6 y7
      unfold entrepotref19_printed.j0
      repeat' first
      | (with_reducible exact ih0 _ _ _)
      | (with_reducible exact ih1 _ _ _ _ _ _ _ _)
      | (with_reducible exact ih2 _ _ _ _ _ _ _ _)
      | (with_reducible exact ih3 _ _ _ _ _ _ _ _ _)
      | (with_reducible exact ih4 _ _ _ _ _ _ _ _ _ _)
      | (with_reducible exact ih5 _ _ _ _ _ _ _ _ _ _ _)
      | (with_reducible exact ih6 _ _ _ _ _ _ _ _ _ _)
      | (with_reducible exact ih7 _ _ _ _ _ _ _ _ _ _ _ _)
      | (with_reducible exact entrepotref04_Num.mono _ _)
      | (with_reducible exact LeO.refl _)
      | (with_reducible exact LeO.none _)
      | (with_reducible refine LeO.ite ?_ ?_)
      | (with_reducible refine LeO.bind ?_ (fun _ => ?_))
      | exact ih0 _ _ _
      | exact ih1 _ _ _ _ _ _ _ _
      | exact ih2 _ _ _ _ _ _ _ _
      | exact ih3 _ _ _ _ _ _ _ _ _
      | exact ih4 _ _ _ _ _ _ _ _ _ _
      | exact ih5 _ _ _ _ _ _ _ _ _ _ _
      | exact ih6 _ _ _ _ _ _ _ _ _ _
      | exact ih7 _ _ _ _ _ _ _ _ _ _ _ _
      | exact entrepotref04_Num.mono _ _
      | exact LeO.none _
      | refine LeO.ite ?_ ?_
      | refine LeO.bind ?_ (fun _ => ?_)
    · intro y0 y1 y2 y3 y4 y5 y6 y7
      unfold entrepotref19_printed.j1
      repeat' first
      | (with_reducible exact ih0 _ _ _)
      | (with_reducible exact ih1 _ _ _ _ _ _ _ _)
      | (with_reducible exact ih2 _ _ _ _ _ _ _ _)
      | (with_reducible exact ih3 _ _ _ _ _ _ _ _ _)
      | (with_reducible exact ih4 _ _ _ _ _ _ _ _ _ _)
      | (with_reducible exact ih5 _ _ _ _ _ _ _ _ _ _ _)
      | (with_reducible exact ih6 _ _ _ _ _ _ _ _ _ _)
      | (with_reducible exact ih7 _ _ _ _ _ _ _ _ _ _ _ _)
      | (with_reducible exact entrepotref04_Num.mono _ _)
      | (with_reducible exact LeO.refl _)
      | (with_reducible exact LeO.none _)
      | (with_reducible refine LeO.ite ?_ ?_)
      | (with_reducible refine LeO.bind ?_ (fun _ => ?_))
      | exact ih0 _ _ _
      | exact ih1 _ _ _ _ _ _ _ _
      | exact ih2 _ _ _ _ _ _ _ _
      | exact ih3 _ _ _ _ _ _ _ _ _
      | exact ih4 _ _ _ _ _ _ _ _ _ _
      | exact ih5 _ _ _ _ _ _ _ _ _ _ _
      | exact ih6 _ _ _ _ _ _ _ _ _ _
      | exact ih7 _ _ _ _ _ _ _ _ _ _ _ _
      | exact entrepotref04_Num.mono _ _
      | exact LeO.none _
      | refine LeO.ite ?_ ?_
      | refine LeO.bind ?_ (fun _ => ?_)
    · intro y0 y1 y2 y3 y4 y5 y6 y7 y8
      unfold entrepotref19_printed.j2
      repeat' first
      | (with_reducible exact ih0 _ _ _)
      | (with_reducible exact ih1 _ _ _ _ _ _ _ _)
      | (with_reducible exact ih2 _ _ _ _ _ _ _ _)
      | (with_reducible exact ih3 _ _ _ _ _ _ _ _ _)
      | (with_reducible exact ih4 _ _ _ _ _ _ _ _ _ _)
      | (with_reducible exact ih5 _ _ _ _ _ _ _ _ _ _ _)
      | (with_reducible exact ih6 _ _ _ _ _ _ _ _ _ _)
      | (with_reducible exact ih7 _ _ _ _ _ _ _ _ _ _ _ _)
      | (with_reducible exact entrepotref04_Num.mono _ _)
      | (with_reducible exact LeO.refl _)
      | (with_reducible exact LeO.none _)
      | (with_reducible refine LeO.ite ?_ ?_)
      | (with_reducible refine LeO.bind ?_ (fun _ => ?_))
      | exact ih0 _ _ _
      | exact ih1 _ _ _ _ _ _ _ _
      | exact ih2 _ _ _ _ _ _ _ _
      | exact ih3 _ _ _ _ _ _ _ _ _
      | exact ih4 _ _ _ _ _ _ _ _ _ _
      | exact ih5 _ _ _ _ _ _ _ _ _ _ _
      | exact ih6 _ _ _ _ _ _ _ _ _ _
      | exact ih7 _ _ _ _ _ _ _ _ _ _ _ _
      | exact entrepotref04_Num.mono _ _
      | exact LeO.none _
      | refine LeO.ite ?_ ?_
      | refine LeO.bind ?_ (fun _ => ?_)
    · intro y0 y1 y2 y3 y4 y5 y6 y7 y8 y9
      unfold entrepotref19_printed.l0
      repeat' first
      | (with_reducible exact ih0 _ _ _)
      | (with_reducible exact ih1 _ _ _ _ _ _ _ _)
      | (with_reducible exact ih2 _ _ _ _ _ _ _ _)
      | (with_reducible exact ih3 _ _ _ _ _ _ _ _ _)
      | (with_reducible exact ih4 _ _ _ _ _ _ _ _ _ _)
      | (with_reducible exact ih5 _ _ _ _ _ _ _ _ _ _ _)
      | (with_reducible exact ih6 _ _ _ _ _ _ _ _ _ _)
      | (with_reducible exact ih7 _ _ _ _ _ _ _ _ _ _ _ _)
      | (with_reducible exact entrepotref04_Num.mono _ _)
      | (with_reducible exact LeO.refl _)
      | (with_reducible exact LeO.none _)
      | (with_reducible refine LeO.ite ?_ ?_)
      | (with_reducible refine LeO.bind ?_ (fun _ => ?_))
      | exact ih0 _ _ _
      | exact ih1 _ _ _ _ _ _ _ _
      | exact ih2 _ _ _ _ _ _ _ _
      | exact ih3 _ _ _ _ _ _ _ _ _
      | exact ih4 _ _ _ _ _ _ _ _ _ _
      | exact ih5 _ _ _ _ _ _ _ _ _ _ _
      | exact ih6 _ _ _ _ _ _ _ _ _ _
      | exact ih7 _ _ _ _ _ _ _ _ _ _ _ _
      | exact entrepotref04_Num.mono _ _
      | exact LeO.none _
      | refine LeO.ite ?_ ?_
      | refine LeO.bind ?_ (fun _ => ?_)
    · intro y0 y1 y2 y3 y4 y5 y6 y7 y8 y9 y10
      unfold entrepotref19_printed.j4
      repeat' first
      | (with_reducible exact ih0 _ _ _)
      | (with_reducible exact ih1 _ _ _ _ _ _ _ _)
      | (with_reducible exact ih2 _ _ _ _ _ _ _ _)
      | (with_reducible exact ih3 _ _ _ _ _ _ _ _ _)
      | (with_reducible exact ih4 _ _ _ _ _ _ _ _ _ _)
      | (with_reducible exact ih5 _ _ _ _ _ _ _ _ _ _ _)
      | (with_reducible exact ih6 _ _ _ _ _ _ _ _ _ _)
      | (with_reducible exact ih7 _ _ _ _ _ _ _ _ _ _ _ _)
      | (with_reducible exact entrepotref04_Num.mono _ _)
      | (with_reducible exact LeO.refl _)
      | (with_reducible exact LeO.none _)
      | (with_reducible refine LeO.ite ?_ ?_)
      | (with_reducible refine LeO.bind ?_ (fun _ => ?_))
      | exact ih0 _ _ _
      | exact ih1 _ _ _ _ _ _ _ _
      | exact ih2 _ _ _ _ _ _ _ _
      | exact ih3 _ _ _ _ _ _ _ _ _
      | exact ih4 _ _ _ _ _ _ _ _ _ _
      | exact ih5 _ _ _ _ _ _ _ _ _ _ _
      | exact ih6 _ _ _ _ _ _ _ _ _ _
      | exact ih7 _ _ _ _ _ _ _ _ _ _ _ _
      | exact entrepotref04_Num.mono _ _
      | exact LeO.none _
      | refine LeO.ite ?_ ?_
      | refine LeO.bind ?_ (fun _ => ?_)
    · intro y0 y1 y2 y3 y4 y5 y6 y7 y8 y9
      unfold entrepotref19_printed.j5
      repeat' first
      | (with_reducible exact ih0 _ _ _)
      | (with_reducible exact ih1 _ _ _ _ _ _ _ _)
      | (with_reducible exact ih2 _ _ _ _ _ _ _ _)
      | (with_reducible exact ih3 _ _ _ _ _ _ _ _ _)
      | (with_reducible exact ih4 _ _ _ _ _ _ _ _ _ _)
      | (with_reducible exact ih5 _ _ _ _ _ _ _ _ _ _ _)
      | (with_reducible exact ih6 _ _ _ _ _ _ _ _ _ _)
      | (with_reducible exact ih7 _ _ _ _ _ _ _ _ _ _ _ _)
      | (with_reducible exact entrepotref04_Num.mono _ _)
      | (with_reducible exact LeO.refl _)
      | (with_reducible exact LeO.none _)
      | (with_reducible refine LeO.ite ?_ ?_)
      | (with_reducible refine LeO.bind ?_ (fun _ => ?_))
      | exact ih0 _ _ _
      | exact ih1 _ _ _ _ _ _ _ _
      | exact ih2 _ _ _ _ _ _ _ _
      | exact ih3 _ _ _ _ _ _ _ _ _
      | exact ih4 _ _ _ _ _ _ _ _ _ _
      | exact ih5 _ _ _ _ _ _ _ _ _ _ _
      | exact ih6 _ _ _ _ _ _ _ _ _ _
      | exact ih7 _ _ _ _ _ _ _ _ _ _ _ _
      | exact entrepotref04_Num.mono _ _
      | exact LeO.none _
      | refine LeO.ite ?_ ?_
      | refine LeO.bind ?_ (fun _ => ?_)
    · intro y0 y1 y2 y3 y4 y5 y6 y7 y8 y9 y10 y11
      unfold entrepotref19_printed.j6
      repeat' first
      | (with_reducible exact ih0 _ _ _)
      | (with_reducible exact ih1 _ _ _ _ _ _ _ _)
      | (with_reducible exact ih2 _ _ _ _ _ _ _ _)
      | (with_reducible exact ih3 _ _ _ _ _ _ _ _ _)
      | (with_reducible exact ih4 _ _ _ _ _ _ _ _ _ _)
      | (with_reducible exact ih5 _ _ _ _ _ _ _ _ _ _ _)
      | (with_reducible exact ih6 _ _ _ _ _ _ _ _ _ _)
      | (with_reducible exact ih7 _ _ _ _ _ _ _ _ _ _ _ _)
      | (with_reducible exact entrepotref04_Num.mono _ _)
      | (with_reducible exact LeO.refl _)
      | (with_reducible exact LeO.none _)
      | (with_reducible refine LeO.ite ?_ ?_)
      | (with_reducible refine LeO.bind ?_ (fun _ => ?_))
      | exact ih0 _ _ _
      | exact ih1 _ _ _ _ _ _ _ _
      | exact ih2 _ _ _ _ _ _ _ _
      | exact ih3 _ _ _ _ _ _ _ _ _
      | exact ih4 _ _ _ _ _ _ _ _ _ _
      | exact ih5 _ _ _ _ _ _ _ _ _ _ _
      | exact ih6 _ _ _ _ _ _ _ _ _ _
      | exact ih7 _ _ _ _ _ _ _ _ _ _ _ _
      | exact entrepotref04_Num.mono _ _
      | exact LeO.none _
      | refine LeO.ite ?_ ?_
      | refine LeO.bind ?_ (fun _ => ?_)
theorem entrepotref19_printed.mono : ∀ a0 a1 a2 k, LeO (entrepotref19_printed.f k a0 a1 a2) (entrepotref19_printed.f (k + 1) a0 a1 a2) := by
  intro a0 a1 a2 k
  obtain ⟨ih0, ih1, ih2, ih3, ih4, ih5, ih6, ih7⟩ := entrepotref19_printed.mono_l k
  exact ih0 a0 a1 a2
set_option maxHeartbeats 8000000 in
set_option maxRecDepth 100000 in
theorem entrepotref19_printed.calls (k : Nat) : ∀ (A0 : Option Addr) (c0 : Nat) (l0 : List (S39)) (a1 : Int) (a2 : Int) (r1 : ByteArray) (r2 : Int) (w : World) (hr0 : Kd.C k39 w A0 l0.length l0) (hc0 : l0.length ≤ c0) (h : entrepotref19_printed.f k l0 a1 a2 = some (r1, r2)),
    Calls Tryd.prog 20 #[.slice A0 l0.length c0, .int .i64 a1, .int .i64 a2] w fun e w' => e = .returned (.tuple #[.string r1, .int .i64 r2]) ∧ Below w.heap.size w w' := by
  induction k using Nat.strongRecOn with
  | _ k ih =>
  intro A0 c0 l0 a1 a2 r1 r2 w hr0 hc0 h
  cases k with
  | zero => exact absurd h (by simp [entrepotref19_printed.f])
  | succ k =>
  simp only [entrepotref19_printed.f] at h
  have hu39 := Tryd.underlying39
  have HR0 := Aside0.mk hr0
  have HC0 := Aside0.mk hc0
  clear hr0 hc0
  have HB := Aside0.mk (Below.refl w.heap.size w)
  have H : (if a1 ≥ (l0.length : Int) then (some ((⟨#[]⟩ : ByteArray), (-1))) else (if 0 ≤ a1 then (if a1 < (l0.length : Int) then (if ((rd_T39 l0 a1).f0) = 1 then (if ((rd_T39 l0 a1).f1) ≥ (-100000000) then (entrepotref19_printed.j0 k l0 a1 a2 (decide (((rd_T39 l0 a1).f1) ≤ 100000000)) ((rd_T39 l0 a1).f0) ((rd_T39 l0 a1).f1) ((rd_T39 l0 a1).f2) ((rd_T39 l0 a1).f3)) else (entrepotref19_printed.j0 k l0 a1 a2 false ((rd_T39 l0 a1).f0) ((rd_T39 l0 a1).f1) ((rd_T39 l0 a1).f2) ((rd_T39 l0 a1).f3))) else (entrepotref19_printed.j0 k l0 a1 a2 false ((rd_T39 l0 a1).f0) ((rd_T39 l0 a1).f1) ((rd_T39 l0 a1).f2) ((rd_T39 l0 a1).f3))) else (none)) else (none))) = some (r1, r2) := h
  clear h
  by_cases c4 : a1 ≥ (l0.length : Int)
  · rw [if_pos c4] at H
    have c4b0 : decide ((l0.length : Int) ≤ a1) = true := decide_eq_true c4
    clear c4
    simp only [Option.some.injEq, Prod.mk.injEq] at H
    obtain ⟨rfl, rfl⟩ := H
    go_enter Tryd.func20, Tryd.ntmps20
    go_wp2
    go_ret2
    exact ⟨by first | rfl | (simp [errW_none, errW_some] <;> rfl) | (simp [*, errW_none, errW_some] <;> rfl), by repeat (first | (with_reducible first | exact HB.out | apply below_alloc | apply pw_below_drewN | apply below_drew1) | exact HB.out)⟩
  · rw [if_neg c4] at H
    have c4b0 : decide ((l0.length : Int) ≤ a1) = false := decide_eq_false c4
    clear c4
    by_cases c5 : 0 ≤ a1
    · rw [if_pos c5] at H
      have c5b0 : decide (0 ≤ a1) = true := decide_eq_true c5
      clear c5
      by_cases c6 : a1 < (l0.length : Int)
      · rw [if_pos c6] at H
        have c6b0 : decide (a1 < (l0.length : Int)) = true := decide_eq_true c6
        clear c6
        have HC7 := Aside0.mk H
        clear H
        have p110 : 0 ≤ (a1 : Int) := of_decide_eq_true (by first | (with_reducible assumption) | assumption)
        have q110 : a1 < (l0.length : Int) := of_decide_eq_true (by first | (with_reducible assumption) | assumption)
        obtain ⟨ad110, e110, hx110_0, hx110_1, hx110_2, hx110_3⟩ := at_T39 HR0.out a1 p110 q110
        cases e110
        replace p110 := eq_true p110
        replace q110 := eq_true q110
        go_enter Tryd.func20, Tryd.ntmps20
        go_upto_region 4 with (first | ((with_reducible refine gate_dst (N := 8) rfl ?_); refine box_event ?hg (N := 8) ?hd (cs := #[.int .i64 0, .int .i64 0, .string (⟨#[]⟩ : ByteArray), .int .i64 0]) (t := 39) ?hr ?_; (case hd => rfl); (case hg => rfl); (case hr => first | (go_simp; done) | (go_simp; rfl)); intro gb111 hg w8 hbox hb; have n0_ := Aside0.mk (below_step (by repeat (first | (with_reducible first | exact HB.out | apply below_alloc | apply pw_below_drewN | apply below_drew1) | exact HB.out)) hb); have n1_ := Aside0.mk (hbox); have n2_ := Aside0.mk ((by rw [hg]; exact (below_size (by repeat (first | (with_reducible first | exact HB.out | apply below_alloc | apply pw_below_drewN | apply below_drew1) | exact HB.out))) : w.heap.size ≤ gb111)); have n3_ := Aside0.mk ((by rw [hg]; exact (below_size (by repeat (first | (with_reducible first | exact HB.out | apply below_alloc | apply pw_below_drewN | apply below_drew1) | exact HB.out))) : w.heap.size ≤ gb111)); clear HB; have HB := n0_; have BK111 := n1_; have GW111 := n2_; have GE111 := n3_; clear n0_ n1_ n2_ n3_; clear hb hbox hg; have hcz9_0 : w8.cell? ⟨gb111, 0, none⟩ = some (.int .i64 0) := (blk_cell BK111.out 0).trans rfl; have hcz9_1 : w8.cell? ⟨gb111, 1, none⟩ = some (.int .i64 0) := (blk_cell BK111.out 1).trans rfl; have hcz9_2 : w8.cell? ⟨gb111, 2, none⟩ = some (.string (⟨#[]⟩ : ByteArray)) := (blk_cell BK111.out 2).trans rfl; have hcz9_3 : w8.cell? ⟨gb111, 3, none⟩ = some (.int .i64 0) := (blk_cell BK111.out 3).trans rfl; have hfz9_0 := blk_frozen BK111.out 0; have hfz9_1 := blk_frozen BK111.out 1; have hfz9_2 := blk_frozen BK111.out 2; have hfz9_3 := blk_frozen BK111.out 3))
        (try simp only [Act.put, List.setIfInBounds_toArray, List.set_cons_zero, List.set_cons_succ])
        go_cut [26] (fun v26 wc => ∃ (kq : Nat) (x26_6 : Bool), v26 = .bool x26_6 ∧ Aside0 (entrepotref19_printed.j0 kq l0 a1 a2 x26_6 ((rd_T39 l0 a1).f0) ((rd_T39 l0 a1).f1) ((rd_T39 l0 a1).f2) ((rd_T39 l0 a1).f3) = some (r1, r2)) ∧ Aside0 (kq ≤ k) ∧ Aside0 (wc.heap[gb111]? = some (.cells #[.int .i64 ((rd_T39 l0 a1).f0), .int .i64 ((rd_T39 l0 a1).f1), .string ((rd_T39 l0 a1).f2), .int .i64 ((rd_T39 l0 a1).f3)] 39 (0, 0))) ∧ Aside0 (Below w.heap.size w wc))
        case first =>
          have H := HC7.out
          clear HC7
          by_cases c10 : ((rd_T39 l0 a1).f0) = 1
          · rw [if_pos c10] at H
            have c10b0 : (((rd_T39 l0 a1).f0) == 1) = true := beq_iff_eq.mpr c10
            have c10b1 : (((rd_T39 l0 a1).f0) != 1) = false := bne_eq_false_iff_eq.mpr c10
            clear c10
            (first | rw [c10b0] | (simp only [i64_w, i32_w]; rw [c10b0]) | skip)
            by_cases c11 : ((rd_T39 l0 a1).f1) ≥ (-100000000)
            · rw [if_pos c11] at H
              have c11b0 : decide ((-100000000) ≤ ((rd_T39 l0 a1).f1)) = true := decide_eq_true c11
              clear c11
              have H' := Aside0.mk H
              clear H
              have hcz12_0 : w8.cell? ⟨gb111, 0, none⟩ = some (.int .i64 0) := (blk_cell BK111.out 0).trans rfl
              have hcz12_1 : w8.cell? ⟨gb111, 1, none⟩ = some (.int .i64 0) := (blk_cell BK111.out 1).trans rfl
              have hcz12_2 : w8.cell? ⟨gb111, 2, none⟩ = some (.string (⟨#[]⟩ : ByteArray)) := (blk_cell BK111.out 2).trans rfl
              have hcz12_3 : w8.cell? ⟨gb111, 3, none⟩ = some (.int .i64 0) := (blk_cell BK111.out 3).trans rfl
              have hfz12_0 := blk_frozen BK111.out 0
              have hfz12_1 := blk_frozen BK111.out 1
              have hfz12_2 := blk_frozen BK111.out 2
              have hfz12_3 := blk_frozen BK111.out 3
              go_wp2
              go_meet
              case rel => exact ⟨_, (decide (((rd_T39 l0 a1).f1) ≤ 100000000)), (by first | rfl | (simp; done) | (simp [*]; done)), H', ⟨by first | omega | exact Nat.le_refl _⟩, ⟨by (with_reducible repeat (first | refine blk_drewN ?_ _ | refine blk_drew ?_ | refine blk_alloc ?_ _)); refine blk_put (cs := #[.int .i64 ((rd_T39 l0 a1).f0), .int .i64 ((rd_T39 l0 a1).f1), .string ((rd_T39 l0 a1).f2), .int .i64 0]) ?_ 3 _ rfl; (with_reducible repeat (first | refine blk_drewN ?_ _ | refine blk_drew ?_ | refine blk_alloc ?_ _)); refine blk_put (cs := #[.int .i64 ((rd_T39 l0 a1).f0), .int .i64 ((rd_T39 l0 a1).f1), .string (⟨#[]⟩ : ByteArray), .int .i64 0]) ?_ 2 _ rfl; (with_reducible repeat (first | refine blk_drewN ?_ _ | refine blk_drew ?_ | refine blk_alloc ?_ _)); refine blk_put (cs := #[.int .i64 ((rd_T39 l0 a1).f0), .int .i64 0, .string (⟨#[]⟩ : ByteArray), .int .i64 0]) ?_ 1 _ rfl; (with_reducible repeat (first | refine blk_drewN ?_ _ | refine blk_drew ?_ | refine blk_alloc ?_ _)); refine blk_put (cs := #[.int .i64 0, .int .i64 0, .string (⟨#[]⟩ : ByteArray), .int .i64 0]) ?_ 0 _ rfl; (with_reducible repeat (first | refine blk_drewN ?_ _ | refine blk_drew ?_ | refine blk_alloc ?_ _)); exact BK111.out⟩, ⟨by repeat (first | (with_reducible first | exact HB.out | apply below_alloc | apply pw_below_drewN | apply below_drew1 | refine below_set ?_ GE111.out) | exact HB.out)⟩⟩
            · rw [if_neg c11] at H
              have c11b0 : decide ((-100000000) ≤ ((rd_T39 l0 a1).f1)) = false := decide_eq_false c11
              clear c11
              have H' := Aside0.mk H
              clear H
              have hcz13_0 : w8.cell? ⟨gb111, 0, none⟩ = some (.int .i64 0) := (blk_cell BK111.out 0).trans rfl
              have hcz13_1 : w8.cell? ⟨gb111, 1, none⟩ = some (.int .i64 0) := (blk_cell BK111.out 1).trans rfl
              have hcz13_2 : w8.cell? ⟨gb111, 2, none⟩ = some (.string (⟨#[]⟩ : ByteArray)) := (blk_cell BK111.out 2).trans rfl
              have hcz13_3 : w8.cell? ⟨gb111, 3, none⟩ = some (.int .i64 0) := (blk_cell BK111.out 3).trans rfl
              have hfz13_0 := blk_frozen BK111.out 0
              have hfz13_1 := blk_frozen BK111.out 1
              have hfz13_2 := blk_frozen BK111.out 2
              have hfz13_3 := blk_frozen BK111.out 3
              go_wp2
              go_meet
              case rel => exact ⟨_, (false), (by first | rfl | (simp; done) | (simp [*]; done)), H', ⟨by first | omega | exact Nat.le_refl _⟩, ⟨by (with_reducible repeat (first | refine blk_drewN ?_ _ | refine blk_drew ?_ | refine blk_alloc ?_ _)); refine blk_put (cs := #[.int .i64 ((rd_T39 l0 a1).f0), .int .i64 ((rd_T39 l0 a1).f1), .string ((rd_T39 l0 a1).f2), .int .i64 0]) ?_ 3 _ rfl; (with_reducible repeat (first | refine blk_drewN ?_ _ | refine blk_drew ?_ | refine blk_alloc ?_ _)); refine blk_put (cs := #[.int .i64 ((rd_T39 l0 a1).f0), .int .i64 ((rd_T39 l0 a1).f1), .string (⟨#[]⟩ : ByteArray), .int .i64 0]) ?_ 2 _ rfl; (with_reducible repeat (first | refine blk_drewN ?_ _ | refine blk_drew ?_ | refine blk_alloc ?_ _)); refine blk_put (cs := #[.int .i64 ((rd_T39 l0 a1).f0), .int .i64 0, .string (⟨#[]⟩ : ByteArray), .int .i64 0]) ?_ 1 _ rfl; (with_reducible repeat (first | refine blk_drewN ?_ _ | refine blk_drew ?_ | refine blk_alloc ?_ _)); refine blk_put (cs := #[.int .i64 0, .int .i64 0, .string (⟨#[]⟩ : ByteArray), .int .i64 0]) ?_ 0 _ rfl; (with_reducible repeat (first | refine blk_drewN ?_ _ | refine blk_drew ?_ | refine blk_alloc ?_ _)); exact BK111.out⟩, ⟨by repeat (first | (with_reducible first | exact HB.out | apply below_alloc | apply pw_below_drewN | apply below_drew1 | refine below_set ?_ GE111.out) | exact HB.out)⟩⟩
          · rw [if_neg c10] at H
            have c10b0 : (((rd_T39 l0 a1).f0) == 1) = false := beq_eq_false_iff_ne.mpr c10
            have c10b1 : (((rd_T39 l0 a1).f0) != 1) = true := bne_iff_ne.mpr c10
            (first | rw [c10b0] | (simp only [i64_w, i32_w]; rw [c10b0]) | skip)
            have H' := Aside0.mk H
            clear H
            have hcz14_0 : w8.cell? ⟨gb111, 0, none⟩ = some (.int .i64 0) := (blk_cell BK111.out 0).trans rfl
            have hcz14_1 : w8.cell? ⟨gb111, 1, none⟩ = some (.int .i64 0) := (blk_cell BK111.out 1).trans rfl
            have hcz14_2 : w8.cell? ⟨gb111, 2, none⟩ = some (.string (⟨#[]⟩ : ByteArray)) := (blk_cell BK111.out 2).trans rfl
            have hcz14_3 : w8.cell? ⟨gb111, 3, none⟩ = some (.int .i64 0) := (blk_cell BK111.out 3).trans rfl
            have hfz14_0 := blk_frozen BK111.out 0
            have hfz14_1 := blk_frozen BK111.out 1
            have hfz14_2 := blk_frozen BK111.out 2
            have hfz14_3 := blk_frozen BK111.out 3
            go_wp2
            go_meet
            case rel => exact ⟨_, (false), (by first | rfl | (simp; done) | (simp [*]; done)), H', ⟨by first | omega | exact Nat.le_refl _⟩, ⟨by (with_reducible repeat (first | refine blk_drewN ?_ _ | refine blk_drew ?_ | refine blk_alloc ?_ _)); refine blk_put (cs := #[.int .i64 ((rd_T39 l0 a1).f0), .int .i64 ((rd_T39 l0 a1).f1), .string ((rd_T39 l0 a1).f2), .int .i64 0]) ?_ 3 _ rfl; (with_reducible repeat (first | refine blk_drewN ?_ _ | refine blk_drew ?_ | refine blk_alloc ?_ _)); refine blk_put (cs := #[.int .i64 ((rd_T39 l0 a1).f0), .int .i64 ((rd_T39 l0 a1).f1), .string (⟨#[]⟩ : ByteArray), .int .i64 0]) ?_ 2 _ rfl; (with_reducible repeat (first | refine blk_drewN ?_ _ | refine blk_drew ?_ | refine blk_alloc ?_ _)); refine blk_put (cs := #[.int .i64 ((rd_T39 l0 a1).f0), .int .i64 0, .string (⟨#[]⟩ : ByteArray), .int .i64 0]) ?_ 1 _ rfl; (with_reducible repeat (first | refine blk_drewN ?_ _ | refine blk_drew ?_ | refine blk_alloc ?_ _)); refine blk_put (cs := #[.int .i64 0, .int .i64 0, .string (⟨#[]⟩ : ByteArray), .int .i64 0]) ?_ 0 _ rfl; (with_reducible repeat (first | refine blk_drewN ?_ _ | refine blk_drew ?_ | refine blk_alloc ?_ _)); exact BK111.out⟩, ⟨by repeat (first | (with_reducible first | exact HB.out | apply below_alloc | apply pw_below_drewN | apply below_drew1 | refine below_set ?_ GE111.out) | exact HB.out)⟩⟩
        case rest =>
          clear HC7
          try clear c1
          try clear p1
          try clear q1
          try clear hx1
          try clear c2
          try clear p2
          try clear c4
          try clear c4b0
          try clear c5
          try clear c5b0
          try clear c6
          try clear c6b0
          try clear c10
          try clear c10b0
          try clear c10b1
          try clear c11
          try clear c11b0
          try clear p11
          try clear q11
          try clear hx11
          try clear hcz12_0
          try clear hcz12_1
          try clear hcz12_2
          try clear hcz12_3
          try clear hcz13_0
          try clear hcz13_1
          try clear hcz13_2
          try clear hcz13_3
          try clear hcz14_0
          try clear hcz14_1
          try clear hcz14_2
          try clear hcz14_3
          try clear hcz9_0
          try clear hcz9_1
          try clear hcz9_2
          try clear hcz9_3
          try clear hfz12_0
          try clear hfz12_1
          try clear hfz12_2
          try clear hfz12_3
          try clear hfz13_0
          try clear hfz13_1
          try clear hfz13_2
          try clear hfz13_3
          try clear hfz14_0
          try clear hfz14_1
          try clear hfz14_2
          try clear hfz14_3
          try clear hfz9_0
          try clear hfz9_1
          try clear hfz9_2
          try clear hfz9_3
          try clear hx110_0
          try clear hx110_1
          try clear hx110_2
          try clear hx110_3
          try clear p110
          try clear q110
          obtain ⟨kq, x26_6, rfl, HA, HJ6, BK111, HB⟩ := hcut
          cases kq with
          | zero => exact absurd HA.out (by simp [entrepotref19_printed.j0])
          | succ kj6 =>
            have H := HA.out
            clear HA
            simp only [entrepotref19_printed.j0] at H
            by_cases c15 : x26_6 = true
            · subst c15
              have H1 : ((entrepotref04_Num.f kj6 ((rd_T39 l0 a1).f1)).bind fun t112 => (some (t112, wrap64 (a1 + 1)))) = some (r1, r2) := by rw [if_pos rfl] at H; exact H
              clear H
              have H := H1
              clear H1
              replace H := Option.bind_eq_some_iff.mp H
              obtain ⟨t112, A160, H⟩ := H
              replace H : (some (t112, wrap64 (a1 + 1))) = some (r1, r2) := H
              have A16 := Aside0.mk A160
              clear A160
              simp only [Option.some.injEq, Prod.mk.injEq] at H
              obtain ⟨rfl, rfl⟩ := H
              have hcz17_0 : wc.cell? ⟨gb111, 0, none⟩ = some (.int .i64 ((rd_T39 l0 a1).f0)) := (blk_cell BK111.out 0).trans rfl
              have hcz17_1 : wc.cell? ⟨gb111, 1, none⟩ = some (.int .i64 ((rd_T39 l0 a1).f1)) := (blk_cell BK111.out 1).trans rfl
              have hcz17_2 : wc.cell? ⟨gb111, 2, none⟩ = some (.string ((rd_T39 l0 a1).f2)) := (blk_cell BK111.out 2).trans rfl
              have hcz17_3 : wc.cell? ⟨gb111, 3, none⟩ = some (.int .i64 ((rd_T39 l0 a1).f3)) := (blk_cell BK111.out 3).trans rfl
              have hfz17_0 := blk_frozen BK111.out 0
              have hfz17_1 := blk_frozen BK111.out 1
              have hfz17_2 := blk_frozen BK111.out 2
              have hfz17_3 := blk_frozen BK111.out 3
              go_wp2_with (first | ((with_reducible refine gate_callee (f := 35) rfl ?_); refine goesL_ (some 42) rfl rfl Tryd.func35 (by kernel_rfl) rfl #[.int .i64 ((rd_T39 l0 a1).f1)] rfl (by (try simp only [List.map_toArray, List.map_cons, List.map_nil]); first | done | rfl | (simp only [List.length_drop, List.length_take]; rfl)) ?_; (with_reducible refine (entrepotref04_Num.calls kj6 ((rd_T39 l0 a1).f1) t112 _ A16.out).mono ?_); rintro e w18 ⟨rfl, hb⟩; refine ⟨_, rfl, ?_⟩; have n0_ := Aside0.mk (blk_below (g := gb111) (o := .cells #[.int .i64 ((rd_T39 l0 a1).f0), .int .i64 ((rd_T39 l0 a1).f1), .string ((rd_T39 l0 a1).f2), .int .i64 ((rd_T39 l0 a1).f3)] 39 (0, 0)) (by (with_reducible repeat (first | refine blk_drewN ?_ _ | refine blk_drew ?_ | refine blk_alloc ?_ _)); exact BK111.out) hb); have n1_ := Aside0.mk (below_step (by repeat (first | (with_reducible first | exact HB.out | apply below_alloc | apply pw_below_drewN | apply below_drew1 | refine below_set ?_ GE111.out) | exact HB.out)) hb); clear BK111; clear HB; have BK111 := n0_; have HB := n1_; clear n0_ n1_; (try clear hb); (try clear hb2); (try clear hk); (try clear hi)))
              go_ret2
              exact ⟨by first | rfl | (simp [errW_none, errW_some] <;> rfl) | (simp [*, errW_none, errW_some] <;> rfl), by repeat (first | (with_reducible first | exact HB.out | apply below_alloc | apply pw_below_drewN | apply below_drew1 | refine below_set ?_ GE111.out) | exact HB.out)⟩
            · replace c15 := Bool.eq_false_iff.mpr c15
              subst c15
              have H1 : (if ((rd_T39 l0 a1).f0) = 2 then ((entrepotref19_Quote.f ((rd_T39 l0 a1).f2)).bind fun bt113 => (if bt113.2 = true then (some (bt113.1, wrap64 (a1 + 1))) else (some ((⟨#[]⟩ : ByteArray), (-1))))) else (if ((rd_T39 l0 a1).f0) = 3 then (entrepotref19_printed.j1 kj6 l0 a1 a2 (decide (a2 < 16)) ((rd_T39 l0 a1).f0) ((rd_T39 l0 a1).f1) ((rd_T39 l0 a1).f2) ((rd_T39 l0 a1).f3)) else (if ((rd_T39 l0 a1).f0) = 4 then (entrepotref19_printed.j1 kj6 l0 a1 a2 (decide (a2 < 16)) ((rd_T39 l0 a1).f0) ((rd_T39 l0 a1).f1) ((rd_T39 l0 a1).f2) ((rd_T39 l0 a1).f3)) else (entrepotref19_printed.j1 kj6 l0 a1 a2 false ((rd_T39 l0 a1).f0) ((rd_T39 l0 a1).f1) ((rd_T39 l0 a1).f2) ((rd_T39 l0 a1).f3))))) = some (r1, r2) := by rw [if_neg (show ¬ (false = true) by decide)] at H; exact H
              clear H
              have H := H1
              clear H1
              by_cases c19 : ((rd_T39 l0 a1).f0) = 2
              · rw [if_pos c19] at H
                have c19b0 : (((rd_T39 l0 a1).f0) == 2) = true := beq_iff_eq.mpr c19
                have c19b1 : (((rd_T39 l0 a1).f0) != 2) = false := bne_eq_false_iff_eq.mpr c19
                clear c19
                replace H := Option.bind_eq_some_iff.mp H
                obtain ⟨⟨t113, t114⟩, A200, H⟩ := H
                replace H : (if t114 = true then (some (t113, wrap64 (a1 + 1))) else (some ((⟨#[]⟩ : ByteArray), (-1)))) = some (r1, r2) := H
                have A20 := Aside0.mk A200
                clear A200
                by_cases c21 : t114 = true
                · subst c21
                  have H1 : (some (t113, wrap64 (a1 + 1))) = some (r1, r2) := by rw [if_pos rfl] at H; exact H
                  clear H
                  have H := H1
                  clear H1
                  simp only [Option.some.injEq, Prod.mk.injEq] at H
                  obtain ⟨rfl, rfl⟩ := H
                  have hcz22_0 : wc.cell? ⟨gb111, 0, none⟩ = some (.int .i64 ((rd_T39 l0 a1).f0)) := (blk_cell BK111.out 0).trans rfl
                  have hcz22_1 : wc.cell? ⟨gb111, 1, none⟩ = some (.int .i64 ((rd_T39 l0 a1).f1)) := (blk_cell BK111.out 1).trans rfl
                  have hcz22_2 : wc.cell? ⟨gb111, 2, none⟩ = some (.string ((rd_T39 l0 a1).f2)) := (blk_cell BK111.out 2).trans rfl
                  have hcz22_3 : wc.cell? ⟨gb111, 3, none⟩ = some (.int .i64 ((rd_T39 l0 a1).f3)) := (blk_cell BK111.out 3).trans rfl
                  have hfz22_0 := blk_frozen BK111.out 0
                  have hfz22_1 := blk_frozen BK111.out 1
                  have hfz22_2 := blk_frozen BK111.out 2
                  have hfz22_3 := blk_frozen BK111.out 3
                  go_wp2_with (first | ((with_reducible refine gate_callee (f := 14) rfl ?_); refine goesL_ (some 52) rfl rfl Tryd.func14 (by kernel_rfl) rfl #[.string ((rd_T39 l0 a1).f2)] rfl (by (try simp only [List.map_toArray, List.map_cons, List.map_nil]); first | done | rfl | (simp only [List.length_drop, List.length_take]; rfl)) ?_; (with_reducible refine (entrepotref19_Quote.calls ((rd_T39 l0 a1).f2) t113 true _ A20.out).mono ?_); rintro e w23 ⟨rfl, hb⟩; refine ⟨_, rfl, ?_⟩; have n0_ := Aside0.mk (blk_below (g := gb111) (o := .cells #[.int .i64 ((rd_T39 l0 a1).f0), .int .i64 ((rd_T39 l0 a1).f1), .string ((rd_T39 l0 a1).f2), .int .i64 ((rd_T39 l0 a1).f3)] 39 (0, 0)) (by (with_reducible repeat (first | refine blk_drewN ?_ _ | refine blk_drew ?_ | refine blk_alloc ?_ _)); exact BK111.out) hb); have n1_ := Aside0.mk (below_step (by repeat (first | (with_reducible first | exact HB.out | apply below_alloc | apply pw_below_drewN | apply below_drew1 | refine below_set ?_ GE111.out) | exact HB.out)) hb); clear BK111; clear HB; have BK111 := n0_; have HB := n1_; clear n0_ n1_; (try clear hb); (try clear hb2); (try clear hk); (try clear hi)))
                  go_ret2
                  exact ⟨by first | rfl | (simp [errW_none, errW_some] <;> rfl) | (simp [*, errW_none, errW_some] <;> rfl), by repeat (first | (with_reducible first | exact HB.out | apply below_alloc | apply pw_below_drewN | apply below_drew1 | refine below_set ?_ GE111.out) | exact HB.out)⟩
                · replace c21 := Bool.eq_false_iff.mpr c21
                  subst c21
                  have H1 : (some ((⟨#[]⟩ : ByteArray), (-1))) = some (r1, r2) := by rw [if_neg (show ¬ (false = true) by decide)] at H; exact H
                  clear H
                  have H := H1
                  clear H1
                  simp only [Option.some.injEq, Prod.mk.injEq] at H
                  obtain ⟨rfl, rfl⟩ := H
                  have hcz24_0 : wc.cell? ⟨gb111, 0, none⟩ = some (.int .i64 ((rd_T39 l0 a1).f0)) := (blk_cell BK111.out 0).trans rfl
                  have hcz24_1 : wc.cell? ⟨gb111, 1, none⟩ = some (.int .i64 ((rd_T39 l0 a1).f1)) := (blk_cell BK111.out 1).trans rfl
                  have hcz24_2 : wc.cell? ⟨gb111, 2, none⟩ = some (.string ((rd_T39 l0 a1).f2)) := (blk_cell BK111.out 2).trans rfl
                  have hcz24_3 : wc.cell? ⟨gb111, 3, none⟩ = some (.int .i64 ((rd_T39 l0 a1).f3)) := (blk_cell BK111.out 3).trans rfl
                  have hfz24_0 := blk_frozen BK111.out 0
                  have hfz24_1 := blk_frozen BK111.out 1
                  have hfz24_2 := blk_frozen BK111.out 2
                  have hfz24_3 := blk_frozen BK111.out 3
                  go_wp2_with (first | ((with_reducible refine gate_callee (f := 14) rfl ?_); refine goesL_ (some 52) rfl rfl Tryd.func14 (by kernel_rfl) rfl #[.string ((rd_T39 l0 a1).f2)] rfl (by (try simp only [List.map_toArray, List.map_cons, List.map_nil]); first | done | rfl | (simp only [List.length_drop, List.length_take]; rfl)) ?_; (with_reducible refine (entrepotref19_Quote.calls ((rd_T39 l0 a1).f2) t113 false _ A20.out).mono ?_); rintro e w25 ⟨rfl, hb⟩; refine ⟨_, rfl, ?_⟩; have n0_ := Aside0.mk (blk_below (g := gb111) (o := .cells #[.int .i64 ((rd_T39 l0 a1).f0), .int .i64 ((rd_T39 l0 a1).f1), .string ((rd_T39 l0 a1).f2), .int .i64 ((rd_T39 l0 a1).f3)] 39 (0, 0)) (by (with_reducible repeat (first | refine blk_drewN ?_ _ | refine blk_drew ?_ | refine blk_alloc ?_ _)); exact BK111.out) hb); have n1_ := Aside0.mk (below_step (by repeat (first | (with_reducible first | exact HB.out | apply below_alloc | apply pw_below_drewN | apply below_drew1 | refine below_set ?_ GE111.out) | exact HB.out)) hb); clear BK111; clear HB; have BK111 := n0_; have HB := n1_; clear n0_ n1_; (try clear hb); (try clear hb2); (try clear hk); (try clear hi)))
                  go_ret2
                  exact ⟨by first | rfl | (simp [errW_none, errW_some] <;> rfl) | (simp [*, errW_none, errW_some] <;> rfl), by repeat (first | (with_reducible first | exact HB.out | apply below_alloc | apply pw_below_drewN | apply below_drew1 | refine below_set ?_ GE111.out) | exact HB.out)⟩
              · rw [if_neg c19] at H
                have c19b0 : (((rd_T39 l0 a1).f0) == 2) = false := beq_eq_false_iff_ne.mpr c19
                have c19b1 : (((rd_T39 l0 a1).f0) != 2) = true := bne_iff_ne.mpr c19
                have HC26 := Aside0.mk H
                clear H
                have hcz27_0 : wc.cell? ⟨gb111, 0, none⟩ = some (.int .i64 ((rd_T39 l0 a1).f0)) := (blk_cell BK111.out 0).trans rfl
                have hcz27_1 : wc.cell? ⟨gb111, 1, none⟩ = some (.int .i64 ((rd_T39 l0 a1).f1)) := (blk_cell BK111.out 1).trans rfl
                have hcz27_2 : wc.cell? ⟨gb111, 2, none⟩ = some (.string ((rd_T39 l0 a1).f2)) := (blk_cell BK111.out 2).trans rfl
                have hcz27_3 : wc.cell? ⟨gb111, 3, none⟩ = some (.int .i64 ((rd_T39 l0 a1).f3)) := (blk_cell BK111.out 3).trans rfl
                have hfz27_0 := blk_frozen BK111.out 0
                have hfz27_1 := blk_frozen BK111.out 1
                have hfz27_2 := blk_frozen BK111.out 2
                have hfz27_3 := blk_frozen BK111.out 3
                go_upto_region 11 with (fail)
                go_cut [60] (fun v60 wc => ∃ (kq : Nat) (x60_25 : Bool), v60 = .bool x60_25 ∧ Aside0 (entrepotref19_printed.j1 kq l0 a1 a2 x60_25 ((rd_T39 l0 a1).f0) ((rd_T39 l0 a1).f1) ((rd_T39 l0 a1).f2) ((rd_T39 l0 a1).f3) = some (r1, r2)) ∧ Aside0 (kq ≤ kj6) ∧ Aside0 (wc.heap[gb111]? = some (.cells #[.int .i64 ((rd_T39 l0 a1).f0), .int .i64 ((rd_T39 l0 a1).f1), .string ((rd_T39 l0 a1).f2), .int .i64 ((rd_T39 l0 a1).f3)] 39 (0, 0))) ∧ Aside0 (Below w.heap.size w wc))
                case first =>
                  have H := HC26.out
                  clear HC26
                  by_cases c28 : ((rd_T39 l0 a1).f0) = 3
                  · rw [if_pos c28] at H
                    have c28b0 : (((rd_T39 l0 a1).f0) == 3) = true := beq_iff_eq.mpr c28
                    have c28b1 : (((rd_T39 l0 a1).f0) != 3) = false := bne_eq_false_iff_eq.mpr c28
                    clear c28
                    (first | rw [c28b0] | (simp only [i64_w, i32_w]; rw [c28b0]) | skip)
                    have H' := Aside0.mk H
                    clear H
                    have hcz29_0 : wc.cell? ⟨gb111, 0, none⟩ = some (.int .i64 ((rd_T39 l0 a1).f0)) := (blk_cell BK111.out 0).trans rfl
                    have hcz29_1 : wc.cell? ⟨gb111, 1, none⟩ = some (.int .i64 ((rd_T39 l0 a1).f1)) := (blk_cell BK111.out 1).trans rfl
                    have hcz29_2 : wc.cell? ⟨gb111, 2, none⟩ = some (.string ((rd_T39 l0 a1).f2)) := (blk_cell BK111.out 2).trans rfl
                    have hcz29_3 : wc.cell? ⟨gb111, 3, none⟩ = some (.int .i64 ((rd_T39 l0 a1).f3)) := (blk_cell BK111.out 3).trans rfl
                    have hfz29_0 := blk_frozen BK111.out 0
                    have hfz29_1 := blk_frozen BK111.out 1
                    have hfz29_2 := blk_frozen BK111.out 2
                    have hfz29_3 := blk_frozen BK111.out 3
                    go_wp2
                    go_meet
                    case rel => exact ⟨_, (decide (a2 < 16)), (by first | rfl | (simp; done) | (simp [*]; done)), H', ⟨by have := HJ6.out; first | omega | exact Nat.le_refl _⟩, ⟨by (with_reducible repeat (first | refine blk_drewN ?_ _ | refine blk_drew ?_ | refine blk_alloc ?_ _)); exact BK111.out⟩, ⟨by repeat (first | (with_reducible first | exact HB.out | apply below_alloc | apply pw_below_drewN | apply below_drew1 | refine below_set ?_ GE111.out) | exact HB.out)⟩⟩
                  · rw [if_neg c28] at H
                    have c28b0 : (((rd_T39 l0 a1).f0) == 3) = false := beq_eq_false_iff_ne.mpr c28
                    have c28b1 : (((rd_T39 l0 a1).f0) != 3) = true := bne_iff_ne.mpr c28
                    (first | rw [c28b0] | (simp only [i64_w, i32_w]; rw [c28b0]) | skip)
                    by_cases c30 : ((rd_T39 l0 a1).f0) = 4
                    · rw [if_pos c30] at H
                      have c30b0 : (((rd_T39 l0 a1).f0) == 4) = true := beq_iff_eq.mpr c30
                      have c30b1 : (((rd_T39 l0 a1).f0) != 4) = false := bne_eq_false_iff_eq.mpr c30
                      clear c30
                      have H' := Aside0.mk H
                      clear H
                      have hcz31_0 : wc.cell? ⟨gb111, 0, none⟩ = some (.int .i64 ((rd_T39 l0 a1).f0)) := (blk_cell BK111.out 0).trans rfl
                      have hcz31_1 : wc.cell? ⟨gb111, 1, none⟩ = some (.int .i64 ((rd_T39 l0 a1).f1)) := (blk_cell BK111.out 1).trans rfl
                      have hcz31_2 : wc.cell? ⟨gb111, 2, none⟩ = some (.string ((rd_T39 l0 a1).f2)) := (blk_cell BK111.out 2).trans rfl
                      have hcz31_3 : wc.cell? ⟨gb111, 3, none⟩ = some (.int .i64 ((rd_T39 l0 a1).f3)) := (blk_cell BK111.out 3).trans rfl
                      have hfz31_0 := blk_frozen BK111.out 0
                      have hfz31_1 := blk_frozen BK111.out 1
                      have hfz31_2 := blk_frozen BK111.out 2
                      have hfz31_3 := blk_frozen BK111.out 3
                      go_wp2
                      go_meet
                      case rel => exact ⟨_, (decide (a2 < 16)), (by first | rfl | (simp; done) | (simp [*]; done)), H', ⟨by have := HJ6.out; first | omega | exact Nat.le_refl _⟩, ⟨by (with_reducible repeat (first | refine blk_drewN ?_ _ | refine blk_drew ?_ | refine blk_alloc ?_ _)); exact BK111.out⟩, ⟨by repeat (first | (with_reducible first | exact HB.out | apply below_alloc | apply pw_below_drewN | apply below_drew1 | refine below_set ?_ GE111.out) | exact HB.out)⟩⟩
                    · rw [if_neg c30] at H
                      have c30b0 : (((rd_T39 l0 a1).f0) == 4) = false := beq_eq_false_iff_ne.mpr c30
                      have c30b1 : (((rd_T39 l0 a1).f0) != 4) = true := bne_iff_ne.mpr c30
                      have H' := Aside0.mk H
                      clear H
                      have hcz32_0 : wc.cell? ⟨gb111, 0, none⟩ = some (.int .i64 ((rd_T39 l0 a1).f0)) := (blk_cell BK111.out 0).trans rfl
                      have hcz32_1 : wc.cell? ⟨gb111, 1, none⟩ = some (.int .i64 ((rd_T39 l0 a1).f1)) := (blk_cell BK111.out 1).trans rfl
                      have hcz32_2 : wc.cell? ⟨gb111, 2, none⟩ = some (.string ((rd_T39 l0 a1).f2)) := (blk_cell BK111.out 2).trans rfl
                      have hcz32_3 : wc.cell? ⟨gb111, 3, none⟩ = some (.int .i64 ((rd_T39 l0 a1).f3)) := (blk_cell BK111.out 3).trans rfl
                      have hfz32_0 := blk_frozen BK111.out 0
                      have hfz32_1 := blk_frozen BK111.out 1
                      have hfz32_2 := blk_frozen BK111.out 2
                      have hfz32_3 := blk_frozen BK111.out 3
                      go_wp2
                      go_meet
                      case rel => exact ⟨_, (false), (by first | rfl | (simp; done) | (simp [*]; done)), H', ⟨by have := HJ6.out; first | omega | exact Nat.le_refl _⟩, ⟨by (with_reducible repeat (first | refine blk_drewN ?_ _ | refine blk_drew ?_ | refine blk_alloc ?_ _)); exact BK111.out⟩, ⟨by repeat (first | (with_reducible first | exact HB.out | apply below_alloc | apply pw_below_drewN | apply below_drew1 | refine below_set ?_ GE111.out) | exact HB.out)⟩⟩
                case rest =>
                  clear HC26
                  try clear c1
                  try clear p1
                  try clear q1
                  try clear hx1
                  try clear c2
                  try clear p2
                  try clear c3
                  try clear c4
                  try clear c4b0
                  try clear c5
                  try clear c5b0
                  try clear c6
                  try clear c6b0
                  try clear p6
                  try clear c10
                  try clear c10b0
                  try clear c10b1
                  try clear c11
                  try clear c11b0
                  try clear p11
                  try clear q11
                  try clear hx11
                  try clear c14
                  try clear c15
                  try clear c19
                  try clear c19b0
                  try clear c19b1
                  try clear c20
                  try clear c21
                  try clear c28
                  try clear c28b0
                  try clear c28b1
                  try clear c30
                  try clear c30b0
                  try clear c30b1
                  try clear hcz12_0
                  try clear hcz12_1
                  try clear hcz12_2
                  try clear hcz12_3
                  try clear hcz13_0
                  try clear hcz13_1
                  try clear hcz13_2
                  try clear hcz13_3
                  try clear hcz14_0
                  try clear hcz14_1
                  try clear hcz14_2
                  try clear hcz14_3
                  try clear hcz17_0
                  try clear hcz17_1
                  try clear hcz17_2
                  try clear hcz17_3
                  try clear hcz22_0
                  try clear hcz22_1
                  try clear hcz22_2
                  try clear hcz22_3
                  try clear hcz24_0
                  try clear hcz24_1
                  try clear hcz24_2
                  try clear hcz24_3
                  try clear hcz27_0
                  try clear hcz27_1
                  try clear hcz27_2
                  try clear hcz27_3
                  try clear hcz29_0
                  try clear hcz29_1
                  try clear hcz29_2
                  try clear hcz29_3
                  try clear hcz31_0
                  try clear hcz31_1
                  try clear hcz31_2
                  try clear hcz31_3
                  try clear hcz32_0
                  try clear hcz32_1
                  try clear hcz32_2
                  try clear hcz32_3
                  try clear hcz9_0
                  try clear hcz9_1
                  try clear hcz9_2
                  try clear hcz9_3
                  try clear hfz12_0
                  try clear hfz12_1
                  try clear hfz12_2
                  try clear hfz12_3
                  try clear hfz13_0
                  try clear hfz13_1
                  try clear hfz13_2
                  try clear hfz13_3
                  try clear hfz14_0
                  try clear hfz14_1
                  try clear hfz14_2
                  try clear hfz14_3
                  try clear hfz17_0
                  try clear hfz17_1
                  try clear hfz17_2
                  try clear hfz17_3
                  try clear hfz22_0
                  try clear hfz22_1
                  try clear hfz22_2
                  try clear hfz22_3
                  try clear hfz24_0
                  try clear hfz24_1
                  try clear hfz24_2
                  try clear hfz24_3
                  try clear hfz27_0
                  try clear hfz27_1
                  try clear hfz27_2
                  try clear hfz27_3
                  try clear hfz29_0
                  try clear hfz29_1
                  try clear hfz29_2
                  try clear hfz29_3
                  try clear hfz31_0
                  try clear hfz31_1
                  try clear hfz31_2
                  try clear hfz31_3
                  try clear hfz32_0
                  try clear hfz32_1
                  try clear hfz32_2
                  try clear hfz32_3
                  try clear hfz9_0
                  try clear hfz9_1
                  try clear hfz9_2
                  try clear hfz9_3
                  try clear hx110_0
                  try clear hx110_1
                  try clear hx110_2
                  try clear hx110_3
                  try clear p1
                  try clear p11
                  try clear p110
                  try clear p2
                  try clear q1
                  try clear q11
                  try clear q110
                  obtain ⟨kq, x60_25, rfl, HA, HJ25, BK111, HB⟩ := hcut
                  cases kq with
                  | zero => exact absurd HA.out (by simp [entrepotref19_printed.j1])
                  | succ kj25 =>
                    have H := HA.out
                    clear HA
                    simp only [entrepotref19_printed.j1] at H
                    by_cases c33 : x60_25 = true
                    · subst c33
                      have H1 : (if ((rd_T39 l0 a1).f0) = 4 then (entrepotref19_printed.j2 kj25 l0 a1 a2 (⟨#[123]⟩ : ByteArray) (⟨#[125]⟩ : ByteArray) ((rd_T39 l0 a1).f0) ((rd_T39 l0 a1).f1) ((rd_T39 l0 a1).f2) ((rd_T39 l0 a1).f3)) else (entrepotref19_printed.j2 kj25 l0 a1 a2 (⟨#[91]⟩ : ByteArray) (⟨#[93]⟩ : ByteArray) ((rd_T39 l0 a1).f0) ((rd_T39 l0 a1).f1) ((rd_T39 l0 a1).f2) ((rd_T39 l0 a1).f3))) = some (r1, r2) := by rw [if_pos rfl] at H; exact H
                      clear H
                      have H := H1
                      clear H1
                      have HC34 := Aside0.mk H
                      clear H
                      have hcz35_0 : wc.cell? ⟨gb111, 0, none⟩ = some (.int .i64 ((rd_T39 l0 a1).f0)) := (blk_cell BK111.out 0).trans rfl
                      have hcz35_1 : wc.cell? ⟨gb111, 1, none⟩ = some (.int .i64 ((rd_T39 l0 a1).f1)) := (blk_cell BK111.out 1).trans rfl
                      have hcz35_2 : wc.cell? ⟨gb111, 2, none⟩ = some (.string ((rd_T39 l0 a1).f2)) := (blk_cell BK111.out 2).trans rfl
                      have hcz35_3 : wc.cell? ⟨gb111, 3, none⟩ = some (.int .i64 ((rd_T39 l0 a1).f3)) := (blk_cell BK111.out 3).trans rfl
                      have hfz35_0 := blk_frozen BK111.out 0
                      have hfz35_1 := blk_frozen BK111.out 1
                      have hfz35_2 := blk_frozen BK111.out 2
                      have hfz35_3 := blk_frozen BK111.out 3
                      go_upto_if 75 with (fail)
                      go_cut [11, 12] (fun v11 v12 wc => ∃ (kq : Nat) (x11_33 : ByteArray) (x12_33 : ByteArray), v11 = .string x11_33 ∧ v12 = .string x12_33 ∧ Aside0 (entrepotref19_printed.j2 kq l0 a1 a2 x11_33 x12_33 ((rd_T39 l0 a1).f0) ((rd_T39 l0 a1).f1) ((rd_T39 l0 a1).f2) ((rd_T39 l0 a1).f3) = some (r1, r2)) ∧ Aside0 (kq ≤ kj25) ∧ Aside0 (wc.heap[gb111]? = some (.cells #[.int .i64 ((rd_T39 l0 a1).f0), .int .i64 ((rd_T39 l0 a1).f1), .string ((rd_T39 l0 a1).f2), .int .i64 ((rd_T39 l0 a1).f3)] 39 (0, 0))) ∧ Aside0 (Below w.heap.size w wc))
                      case first =>
                        have H := HC34.out
                        clear HC34
                        by_cases c36 : ((rd_T39 l0 a1).f0) = 4
                        · rw [if_pos c36] at H
                          have c36b0 : (((rd_T39 l0 a1).f0) == 4) = true := beq_iff_eq.mpr c36
                          have c36b1 : (((rd_T39 l0 a1).f0) != 4) = false := bne_eq_false_iff_eq.mpr c36
                          clear c36
                          (first | rw [c36b0] | (simp only [i64_w, i32_w]; rw [c36b0]) | skip)
                          have H' := Aside0.mk H
                          clear H
                          go_wp2
                          go_meet
                          case rel => exact ⟨_, ((⟨#[123]⟩ : ByteArray)), ((⟨#[125]⟩ : ByteArray)), (by first | rfl | (simp; done) | (simp [*]; done)), (by first | rfl | (simp; done) | (simp [*]; done)), H', ⟨by have := HJ6.out; have := HJ25.out; first | omega | exact Nat.le_refl _⟩, ⟨by (with_reducible repeat (first | refine blk_drewN ?_ _ | refine blk_drew ?_ | refine blk_alloc ?_ _)); exact BK111.out⟩, ⟨by repeat (first | (with_reducible first | exact HB.out | apply below_alloc | apply pw_below_drewN | apply below_drew1 | refine below_set ?_ GE111.out) | exact HB.out)⟩⟩
                        · rw [if_neg c36] at H
                          have c36b0 : (((rd_T39 l0 a1).f0) == 4) = false := beq_eq_false_iff_ne.mpr c36
                          have c36b1 : (((rd_T39 l0 a1).f0) != 4) = true := bne_iff_ne.mpr c36
                          (first | rw [c36b0] | (simp only [i64_w, i32_w]; rw [c36b0]) | skip)
                          have H' := Aside0.mk H
                          clear H
                          go_wp2
                          go_meet
                          case rel => exact ⟨_, ((⟨#[91]⟩ : ByteArray)), ((⟨#[93]⟩ : ByteArray)), (by first | rfl | (simp; done) | (simp [*]; done)), (by first | rfl | (simp; done) | (simp [*]; done)), H', ⟨by have := HJ6.out; have := HJ25.out; first | omega | exact Nat.le_refl _⟩, ⟨by (with_reducible repeat (first | refine blk_drewN ?_ _ | refine blk_drew ?_ | refine blk_alloc ?_ _)); exact BK111.out⟩, ⟨by repeat (first | (with_reducible first | exact HB.out | apply below_alloc | apply pw_below_drewN | apply below_drew1 | refine below_set ?_ GE111.out) | exact HB.out)⟩⟩
                      case rest =>
                        clear HC34
                        try clear c1
                        try clear p1
                        try clear q1
                        try clear hx1
                        try clear c2
                        try clear p2
                        try clear c3
                        try clear c4
                        try clear c4b0
                        try clear c5
                        try clear c5b0
                        try clear c6
                        try clear c6b0
                        try clear p6
                        try clear c10
                        try clear c10b0
                        try clear c10b1
                        try clear c11
                        try clear c11b0
                        try clear p11
                        try clear q11
                        try clear hx11
                        try clear c14
                        try clear c15
                        try clear c19
                        try clear c19b0
                        try clear c19b1
                        try clear c20
                        try clear c21
                        try clear c28
                        try clear c28b0
                        try clear c28b1
                        try clear c30
                        try clear c30b0
                        try clear c30b1
                        try clear c33
                        try clear c35
                        try clear c36
                        try clear c36b0
                        try clear c36b1
                        try clear hcz12_0
                        try clear hcz12_1
                        try clear hcz12_2
                        try clear hcz12_3
                        try clear hcz13_0
                        try clear hcz13_1
                        try clear hcz13_2
                        try clear hcz13_3
                        try clear hcz14_0
                        try clear hcz14_1
                        try clear hcz14_2
                        try clear hcz14_3
                        try clear hcz17_0
                        try clear hcz17_1
                        try clear hcz17_2
                        try clear hcz17_3
                        try clear hcz22_0
                        try clear hcz22_1
                        try clear hcz22_2
                        try clear hcz22_3
                        try clear hcz24_0
                        try clear hcz24_1
                        try clear hcz24_2
                        try clear hcz24_3
                        try clear hcz27_0
                        try clear hcz27_1
                        try clear hcz27_2
                        try clear hcz27_3
                        try clear hcz29_0
                        try clear hcz29_1
                        try clear hcz29_2
                        try clear hcz29_3
                        try clear hcz31_0
                        try clear hcz31_1
                        try clear hcz31_2
                        try clear hcz31_3
                        try clear hcz32_0
                        try clear hcz32_1
                        try clear hcz32_2
                        try clear hcz32_3
                        try clear hcz35_0
                        try clear hcz35_1
                        try clear hcz35_2
                        try clear hcz35_3
                        try clear hcz9_0
                        try clear hcz9_1
                        try clear hcz9_2
                        try clear hcz9_3
                        try clear hfz12_0
                        try clear hfz12_1
                        try clear hfz12_2
                        try clear hfz12_3
                        try clear hfz13_0
                        try clear hfz13_1
                        try clear hfz13_2
                        try clear hfz13_3
                        try clear hfz14_0
                        try clear hfz14_1
                        try clear hfz14_2
                        try clear hfz14_3
                        try clear hfz17_0
                        try clear hfz17_1
                        try clear hfz17_2
                        try clear hfz17_3
                        try clear hfz22_0
                        try clear hfz22_1
                        try clear hfz22_2
                        try clear hfz22_3
                        try clear hfz24_0
                        try clear hfz24_1
                        try clear hfz24_2
                        try clear hfz24_3
                        try clear hfz27_0
                        try clear hfz27_1
                        try clear hfz27_2
                        try clear hfz27_3
                        try clear hfz29_0
                        try clear hfz29_1
                        try clear hfz29_2
                        try clear hfz29_3
                        try clear hfz31_0
                        try clear hfz31_1
                        try clear hfz31_2
                        try clear hfz31_3
                        try clear hfz32_0
                        try clear hfz32_1
                        try clear hfz32_2
                        try clear hfz32_3
                        try clear hfz35_0
                        try clear hfz35_1
                        try clear hfz35_2
                        try clear hfz35_3
                        try clear hfz9_0
                        try clear hfz9_1
                        try clear hfz9_2
                        try clear hfz9_3
                        try clear hx110_0
                        try clear hx110_1
                        try clear hx110_2
                        try clear hx110_3
                        try clear p1
                        try clear p11
                        try clear p110
                        try clear p2
                        try clear p6
                        try clear q1
                        try clear q11
                        try clear q110
                        obtain ⟨kq, x11_33, x12_33, rfl, rfl, HA, HJ33, BK111, HB⟩ := hcut
                        cases kq with
                        | zero => exact absurd HA.out (by simp [entrepotref19_printed.j2])
                        | succ kj33 =>
                          have H := HA.out
                          clear HA
                          simp only [entrepotref19_printed.j2] at H
                          have H' := Aside0.mk H
                          clear H
                          go_wp2
                          go_loopg [1, 11, 13] kj33 (fun kq v1 v11 v13 w' => ∃ (x1_4 : Int) (x11_4 : ByteArray) (x13_4 : Int), v1 = .int .i64 x1_4 ∧ v11 = .string x11_4 ∧ v13 = .int .i64 x13_4 ∧ Aside0 (entrepotref19_printed.l0 kq l0 x1_4 a2 x11_4 x12_33 x13_4 ((rd_T39 l0 a1).f0) ((rd_T39 l0 a1).f1) ((rd_T39 l0 a1).f2) ((rd_T39 l0 a1).f3) = some (r1, r2)) ∧ Aside0 (kq ≤ kj33) ∧ Aside0 (w'.heap[gb111]? = some (.cells #[.int .i64 ((rd_T39 l0 a1).f0), .int .i64 ((rd_T39 l0 a1).f1), .string ((rd_T39 l0 a1).f2), .int .i64 ((rd_T39 l0 a1).f3)] 39 (0, 0))) ∧ Aside0 (Below w.heap.size w w'))
                          case atStart => exact ⟨(wrap64 (a1 + 1)), (x11_33), (0), (by first | rfl | (simp; done) | (simp [*]; done)), (by first | rfl | (simp; done) | (simp [*]; done)), (by first | rfl | (simp; done) | (simp [*]; done)), H', ⟨Nat.le_refl _⟩, ⟨by (with_reducible repeat (first | refine blk_drewN ?_ _ | refine blk_drew ?_ | refine blk_alloc ?_ _)); exact BK111.out⟩, ⟨by repeat (first | (with_reducible first | exact HB.out | apply below_alloc | apply pw_below_drewN | apply below_drew1 | refine below_set ?_ GE111.out) | exact HB.out)⟩⟩
                          case round =>
                            clear H'
                            try clear c1
                            try clear p1
                            try clear q1
                            try clear hx1
                            try clear c2
                            try clear p2
                            try clear c3
                            try clear c4
                            try clear c4b0
                            try clear c5
                            try clear c5b0
                            try clear c6
                            try clear c6b0
                            try clear p6
                            try clear c10
                            try clear c10b0
                            try clear c10b1
                            try clear c11
                            try clear c11b0
                            try clear p11
                            try clear q11
                            try clear hx11
                            try clear c14
                            try clear c15
                            try clear c19
                            try clear c19b0
                            try clear c19b1
                            try clear c20
                            try clear c21
                            try clear c28
                            try clear c28b0
                            try clear c28b1
                            try clear c30
                            try clear c30b0
                            try clear c30b1
                            try clear c33
                            try clear c35
                            try clear c36
                            try clear c36b0
                            try clear c36b1
                            try clear hcz12_0
                            try clear hcz12_1
                            try clear hcz12_2
                            try clear hcz12_3
                            try clear hcz13_0
                            try clear hcz13_1
                            try clear hcz13_2
                            try clear hcz13_3
                            try clear hcz14_0
                            try clear hcz14_1
                            try clear hcz14_2
                            try clear hcz14_3
                            try clear hcz17_0
                            try clear hcz17_1
                            try clear hcz17_2
                            try clear hcz17_3
                            try clear hcz22_0
                            try clear hcz22_1
                            try clear hcz22_2
                            try clear hcz22_3
                            try clear hcz24_0
                            try clear hcz24_1
                            try clear hcz24_2
                            try clear hcz24_3
                            try clear hcz27_0
                            try clear hcz27_1
                            try clear hcz27_2
                            try clear hcz27_3
                            try clear hcz29_0
                            try clear hcz29_1
                            try clear hcz29_2
                            try clear hcz29_3
                            try clear hcz31_0
                            try clear hcz31_1
                            try clear hcz31_2
                            try clear hcz31_3
                            try clear hcz32_0
                            try clear hcz32_1
                            try clear hcz32_2
                            try clear hcz32_3
                            try clear hcz35_0
                            try clear hcz35_1
                            try clear hcz35_2
                            try clear hcz35_3
                            try clear hcz9_0
                            try clear hcz9_1
                            try clear hcz9_2
                            try clear hcz9_3
                            try clear hfz12_0
                            try clear hfz12_1
                            try clear hfz12_2
                            try clear hfz12_3
                            try clear hfz13_0
                            try clear hfz13_1
                            try clear hfz13_2
                            try clear hfz13_3
                            try clear hfz14_0
                            try clear hfz14_1
                            try clear hfz14_2
                            try clear hfz14_3
                            try clear hfz17_0
                            try clear hfz17_1
                            try clear hfz17_2
                            try clear hfz17_3
                            try clear hfz22_0
                            try clear hfz22_1
                            try clear hfz22_2
                            try clear hfz22_3
                            try clear hfz24_0
                            try clear hfz24_1
                            try clear hfz24_2
                            try clear hfz24_3
                            try clear hfz27_0
                            try clear hfz27_1
                            try clear hfz27_2
                            try clear hfz27_3
                            try clear hfz29_0
                            try clear hfz29_1
                            try clear hfz29_2
                            try clear hfz29_3
                            try clear hfz31_0
                            try clear hfz31_1
                            try clear hfz31_2
                            try clear hfz31_3
                            try clear hfz32_0
                            try clear hfz32_1
                            try clear hfz32_2
                            try clear hfz32_3
                            try clear hfz35_0
                            try clear hfz35_1
                            try clear hfz35_2
                            try clear hfz35_3
                            try clear hfz9_0
                            try clear hfz9_1
                            try clear hfz9_2
                            try clear hfz9_3
                            try clear hx110_0
                            try clear hx110_1
                            try clear hx110_2
                            try clear hx110_3
                            try clear p1
                            try clear p11
                            try clear p110
                            try clear p2
                            try clear p6
                            try clear q1
                            try clear q11
                            try clear q110
                            obtain ⟨x1_4, x11_4, x13_4, rfl, rfl, rfl, HA, HK4, BK111, HB⟩ := hrel
                            cases gk with
                            | zero => exact absurd HA.out (by simp [entrepotref19_printed.l0])
                            | succ k4 =>
                              have H := HA.out
                              clear HA
                              simp only [entrepotref19_printed.l0] at H
                              have HC37 := Aside0.mk H
                              clear H
                              go_upto_region 19 with (fail)
                              go_cut [89] (fun v89 wc => ∃ (kq : Nat) (x89_36 : Bool), v89 = .bool x89_36 ∧ Aside0 (entrepotref19_printed.j4 kq l0 x1_4 a2 x11_4 x12_33 x13_4 x89_36 ((rd_T39 l0 a1).f0) ((rd_T39 l0 a1).f1) ((rd_T39 l0 a1).f2) ((rd_T39 l0 a1).f3) = some (r1, r2)) ∧ Aside0 (kq ≤ k4) ∧ Aside0 (wc.heap[gb111]? = some (.cells #[.int .i64 ((rd_T39 l0 a1).f0), .int .i64 ((rd_T39 l0 a1).f1), .string ((rd_T39 l0 a1).f2), .int .i64 ((rd_T39 l0 a1).f3)] 39 (0, 0))) ∧ Aside0 (Below w.heap.size w wc))
                              case first =>
                                have H := HC37.out
                                clear HC37
                                by_cases c38 : x1_4 < (l0.length : Int)
                                · rw [if_pos c38] at H
                                  have c38b0 : decide (x1_4 < (l0.length : Int)) = true := decide_eq_true c38
                                  clear c38
                                  (first | rw [c38b0] | (simp only [i64_w, i32_w]; rw [c38b0]) | skip)
                                  by_cases c39 : 0 ≤ x1_4
                                  · rw [if_pos c39] at H
                                    have c39b0 : decide (0 ≤ x1_4) = true := decide_eq_true c39
                                    clear c39
                                    have H' := Aside0.mk H
                                    clear H
                                    have p115 : 0 ≤ (x1_4 : Int) := of_decide_eq_true (by first | (with_reducible assumption) | assumption)
                                    have q115 : x1_4 < (l0.length : Int) := of_decide_eq_true (by first | (with_reducible assumption) | assumption)
                                    obtain ⟨ad115, e115, hx115_0, hx115_1, hx115_2, hx115_3⟩ := at_T39 HR0.out x1_4 p115 q115
                                    obtain rfl : ad110 = ad115 := (by injection e115)
                                    replace hx115_0 := (HB.out.cell (World.block_lt_of_cell? w _ hx115_0)).trans hx115_0
                                    replace hx115_1 := (HB.out.cell (World.block_lt_of_cell? w _ hx115_1)).trans hx115_1
                                    replace hx115_2 := (HB.out.cell (World.block_lt_of_cell? w _ hx115_2)).trans hx115_2
                                    replace hx115_3 := (HB.out.cell (World.block_lt_of_cell? w _ hx115_3)).trans hx115_3
                                    replace p115 := eq_true p115
                                    replace q115 := eq_true q115
                                    go_wp2
                                    go_meet
                                    case rel => exact ⟨_, ((((rd_T39 l0 x1_4).f0) != 5)), (by first | rfl | (simp; done) | (simp [*]; done)), H', ⟨by have := HJ6.out; have := HJ25.out; have := HJ33.out; have := HK4.out; first | omega | exact Nat.le_refl _⟩, ⟨by (with_reducible repeat (first | refine blk_drewN ?_ _ | refine blk_drew ?_ | refine blk_alloc ?_ _)); exact BK111.out⟩, ⟨by repeat (first | (with_reducible first | exact HB.out | apply below_alloc | apply pw_below_drewN | apply below_drew1 | refine below_set ?_ GE111.out) | exact HB.out)⟩⟩
                                  · rw [if_neg c39] at H
                                    exact absurd H (by simp)
                                · rw [if_neg c38] at H
                                  have c38b0 : decide (x1_4 < (l0.length : Int)) = false := decide_eq_false c38
                                  clear c38
                                  (first | rw [c38b0] | (simp only [i64_w, i32_w]; rw [c38b0]) | skip)
                                  have H' := Aside0.mk H
                                  clear H
                                  go_wp2
                                  go_meet
                                  case rel => exact ⟨_, (false), (by first | rfl | (simp; done) | (simp [*]; done)), H', ⟨by have := HJ6.out; have := HJ25.out; have := HJ33.out; have := HK4.out; first | omega | exact Nat.le_refl _⟩, ⟨by (with_reducible repeat (first | refine blk_drewN ?_ _ | refine blk_drew ?_ | refine blk_alloc ?_ _)); exact BK111.out⟩, ⟨by repeat (first | (with_reducible first | exact HB.out | apply below_alloc | apply pw_below_drewN | apply below_drew1 | refine below_set ?_ GE111.out) | exact HB.out)⟩⟩
                              case rest =>
                                clear HC37
                                try clear c1
                                try clear p1
                                try clear q1
                                try clear hx1
                                try clear c2
                                try clear p2
                                try clear c3
                                try clear c4
                                try clear c4b0
                                try clear c5
                                try clear c5b0
                                try clear c6
                                try clear c6b0
                                try clear p6
                                try clear c10
                                try clear c10b0
                                try clear c10b1
                                try clear c11
                                try clear c11b0
                                try clear p11
                                try clear q11
                                try clear hx11
                                try clear c14
                                try clear c15
                                try clear c19
                                try clear c19b0
                                try clear c19b1
                                try clear c20
                                try clear c21
                                try clear c28
                                try clear c28b0
                                try clear c28b1
                                try clear c30
                                try clear c30b0
                                try clear c30b1
                                try clear c33
                                try clear c35
                                try clear c36
                                try clear c36b0
                                try clear c36b1
                                try clear c38
                                try clear c38b0
                                try clear c39
                                try clear c39b0
                                try clear hcz12_0
                                try clear hcz12_1
                                try clear hcz12_2
                                try clear hcz12_3
                                try clear hcz13_0
                                try clear hcz13_1
                                try clear hcz13_2
                                try clear hcz13_3
                                try clear hcz14_0
                                try clear hcz14_1
                                try clear hcz14_2
                                try clear hcz14_3
                                try clear hcz17_0
                                try clear hcz17_1
                                try clear hcz17_2
                                try clear hcz17_3
                                try clear hcz22_0
                                try clear hcz22_1
                                try clear hcz22_2
                                try clear hcz22_3
                                try clear hcz24_0
                                try clear hcz24_1
                                try clear hcz24_2
                                try clear hcz24_3
                                try clear hcz27_0
                                try clear hcz27_1
                                try clear hcz27_2
                                try clear hcz27_3
                                try clear hcz29_0
                                try clear hcz29_1
                                try clear hcz29_2
                                try clear hcz29_3
                                try clear hcz31_0
                                try clear hcz31_1
                                try clear hcz31_2
                                try clear hcz31_3
                                try clear hcz32_0
                                try clear hcz32_1
                                try clear hcz32_2
                                try clear hcz32_3
                                try clear hcz35_0
                                try clear hcz35_1
                                try clear hcz35_2
                                try clear hcz35_3
                                try clear hcz9_0
                                try clear hcz9_1
                                try clear hcz9_2
                                try clear hcz9_3
                                try clear hfz12_0
                                try clear hfz12_1
                                try clear hfz12_2
                                try clear hfz12_3
                                try clear hfz13_0
                                try clear hfz13_1
                                try clear hfz13_2
                                try clear hfz13_3
                                try clear hfz14_0
                                try clear hfz14_1
                                try clear hfz14_2
                                try clear hfz14_3
                                try clear hfz17_0
                                try clear hfz17_1
                                try clear hfz17_2
                                try clear hfz17_3
                                try clear hfz22_0
                                try clear hfz22_1
                                try clear hfz22_2
                                try clear hfz22_3
                                try clear hfz24_0
                                try clear hfz24_1
                                try clear hfz24_2
                                try clear hfz24_3
                                try clear hfz27_0
                                try clear hfz27_1
                                try clear hfz27_2
                                try clear hfz27_3
                                try clear hfz29_0
                                try clear hfz29_1
                                try clear hfz29_2
                                try clear hfz29_3
                                try clear hfz31_0
                                try clear hfz31_1
                                try clear hfz31_2
                                try clear hfz31_3
                                try clear hfz32_0
                                try clear hfz32_1
                                try clear hfz32_2
                                try clear hfz32_3
                                try clear hfz35_0
                                try clear hfz35_1
                                try clear hfz35_2
                                try clear hfz35_3
                                try clear hfz9_0
                                try clear hfz9_1
                                try clear hfz9_2
                                try clear hfz9_3
                                try clear hx110_0
                                try clear hx110_1
                                try clear hx110_2
                                try clear hx110_3
                                try clear hx115_0
                                try clear hx115_1
                                try clear hx115_2
                                try clear hx115_3
                                try clear p1
                                try clear p11
                                try clear p110
                                try clear p115
                                try clear p2
                                try clear p6
                                try clear q1
                                try clear q11
                                try clear q110
                                try clear q115
                                obtain ⟨kq, x89_36, rfl, HA, HJ36, BK111, HB⟩ := hcut
                                cases kq with
                                | zero => exact absurd HA.out (by simp [entrepotref19_printed.j4])
                                | succ kj36 =>
                                  have H := HA.out
                                  clear HA
                                  simp only [entrepotref19_printed.j4] at H
                                  by_cases c40 : x89_36 = true
                                  · subst c40
                                    have H1 : (if x13_4 > 0 then (if x11_4.size + 1 ≤ 9223372036854775807 then (entrepotref19_printed.j5 kj36 l0 x1_4 a2 (x11_4 ++ (⟨#[44]⟩ : ByteArray)) x12_33 x13_4 ((rd_T39 l0 a1).f0) ((rd_T39 l0 a1).f1) ((rd_T39 l0 a1).f2) ((rd_T39 l0 a1).f3)) else (none)) else (entrepotref19_printed.j5 kj36 l0 x1_4 a2 x11_4 x12_33 x13_4 ((rd_T39 l0 a1).f0) ((rd_T39 l0 a1).f1) ((rd_T39 l0 a1).f2) ((rd_T39 l0 a1).f3))) = some (r1, r2) := by rw [if_pos rfl] at H; exact H
                                    clear H
                                    have H := H1
                                    clear H1
                                    have HC41 := Aside0.mk H
                                    clear H
                                    go_upto_if 93 with (fail)
                                    go_cut [11] (fun v11 wc => ∃ (kq : Nat) (x11_40 : ByteArray), v11 = .string x11_40 ∧ Aside0 (entrepotref19_printed.j5 kq l0 x1_4 a2 x11_40 x12_33 x13_4 ((rd_T39 l0 a1).f0) ((rd_T39 l0 a1).f1) ((rd_T39 l0 a1).f2) ((rd_T39 l0 a1).f3) = some (r1, r2)) ∧ Aside0 (kq ≤ kj36) ∧ Aside0 (wc.heap[gb111]? = some (.cells #[.int .i64 ((rd_T39 l0 a1).f0), .int .i64 ((rd_T39 l0 a1).f1), .string ((rd_T39 l0 a1).f2), .int .i64 ((rd_T39 l0 a1).f3)] 39 (0, 0))) ∧ Aside0 (Below w.heap.size w wc))
                                    case first =>
                                      have H := HC41.out
                                      clear HC41
                                      by_cases c42 : x13_4 > 0
                                      · rw [if_pos c42] at H
                                        have c42b0 : decide (0 < x13_4) = true := decide_eq_true c42
                                        clear c42
                                        (first | rw [c42b0] | (simp only [i64_w, i32_w]; rw [c42b0]) | skip)
                                        by_cases c43 : x11_4.size + 1 ≤ 9223372036854775807
                                        · rw [if_pos c43] at H
                                          have c43b0 := eq_true c43
                                          have c43b1 : decide (x11_4.size + 1 ≤ 9223372036854775807) = true := decide_eq_true c43
                                          try have c43b2 : (9223372036854775807 < x11_4.size + 1) = False := eq_false (Nat.not_lt.2 c43)
                                          have H' := Aside0.mk H
                                          clear H
                                          go_wp2
                                          go_meet
                                          case rel => exact ⟨_, (x11_4 ++ (⟨#[44]⟩ : ByteArray)), (by first | rfl | (simp; done) | (simp [*]; done)), H', ⟨by have := HJ6.out; have := HJ25.out; have := HJ33.out; have := HK4.out; have := HJ36.out; first | omega | exact Nat.le_refl _⟩, ⟨by (with_reducible repeat (first | refine blk_drewN ?_ _ | refine blk_drew ?_ | refine blk_alloc ?_ _)); exact BK111.out⟩, ⟨by repeat (first | (with_reducible first | exact HB.out | apply below_alloc | apply pw_below_drewN | apply below_drew1 | refine below_set ?_ GE111.out) | exact HB.out)⟩⟩
                                        · rw [if_neg c43] at H
                                          exact absurd H (by simp)
                                      · rw [if_neg c42] at H
                                        have c42b0 : decide (0 < x13_4) = false := decide_eq_false c42
                                        clear c42
                                        (first | rw [c42b0] | (simp only [i64_w, i32_w]; rw [c42b0]) | skip)
                                        have H' := Aside0.mk H
                                        clear H
                                        go_wp2
                                        go_meet
                                        case rel => exact ⟨_, (x11_4), (by first | rfl | (simp; done) | (simp [*]; done)), H', ⟨by have := HJ6.out; have := HJ25.out; have := HJ33.out; have := HK4.out; have := HJ36.out; first | omega | exact Nat.le_refl _⟩, ⟨by (with_reducible repeat (first | refine blk_drewN ?_ _ | refine blk_drew ?_ | refine blk_alloc ?_ _)); exact BK111.out⟩, ⟨by repeat (first | (with_reducible first | exact HB.out | apply below_alloc | apply pw_below_drewN | apply below_drew1 | refine below_set ?_ GE111.out) | exact HB.out)⟩⟩
                                    case rest =>
                                      clear HC41
                                      try clear c1
                                      try clear p1
                                      try clear q1
                                      try clear hx1
                                      try clear c2
                                      try clear p2
                                      try clear c3
                                      try clear c4
                                      try clear c4b0
                                      try clear c5
                                      try clear c5b0
                                      try clear c6
                                      try clear c6b0
                                      try clear p6
                                      try clear c10
                                      try clear c10b0
                                      try clear c10b1
                                      try clear c11
                                      try clear c11b0
                                      try clear p11
                                      try clear q11
                                      try clear hx11
                                      try clear c14
                                      try clear c15
                                      try clear c19
                                      try clear c19b0
                                      try clear c19b1
                                      try clear c20
                                      try clear c21
                                      try clear c28
                                      try clear c28b0
                                      try clear c28b1
                                      try clear c30
                                      try clear c30b0
                                      try clear c30b1
                                      try clear c33
                                      try clear c35
                                      try clear c36
                                      try clear c36b0
                                      try clear c36b1
                                      try clear c38
                                      try clear c38b0
                                      try clear c39
                                      try clear c39b0
                                      try clear c40
                                      try clear c42
                                      try clear c42b0
                                      try clear c43
                                      try clear c43b0
                                      try clear c43b1
                                      try clear c43b2
                                      try clear hcz12_0
                                      try clear hcz12_1
                                      try clear hcz12_2
                                      try clear hcz12_3
                                      try clear hcz13_0
                                      try clear hcz13_1
                                      try clear hcz13_2
                                      try clear hcz13_3
                                      try clear hcz14_0
                                      try clear hcz14_1
                                      try clear hcz14_2
                                      try clear hcz14_3
                                      try clear hcz17_0
                                      try clear hcz17_1
                                      try clear hcz17_2
                                      try clear hcz17_3
                                      try clear hcz22_0
                                      try clear hcz22_1
                                      try clear hcz22_2
                                      try clear hcz22_3
                                      try clear hcz24_0
                                      try clear hcz24_1
                                      try clear hcz24_2
                                      try clear hcz24_3
                                      try clear hcz27_0
                                      try clear hcz27_1
                                      try clear hcz27_2
                                      try clear hcz27_3
                                      try clear hcz29_0
                                      try clear hcz29_1
                                      try clear hcz29_2
                                      try clear hcz29_3
                                      try clear hcz31_0
                                      try clear hcz31_1
                                      try clear hcz31_2
                                      try clear hcz31_3
                                      try clear hcz32_0
                                      try clear hcz32_1
                                      try clear hcz32_2
                                      try clear hcz32_3
                                      try clear hcz35_0
                                      try clear hcz35_1
                                      try clear hcz35_2
                                      try clear hcz35_3
                                      try clear hcz9_0
                                      try clear hcz9_1
                                      try clear hcz9_2
                                      try clear hcz9_3
                                      try clear hfz12_0
                                      try clear hfz12_1
                                      try clear hfz12_2
                                      try clear hfz12_3
                                      try clear hfz13_0
                                      try clear hfz13_1
                                      try clear hfz13_2
                                      try clear hfz13_3
                                      try clear hfz14_0
                                      try clear hfz14_1
                                      try clear hfz14_2
                                      try clear hfz14_3
                                      try clear hfz17_0
                                      try clear hfz17_1
                                      try clear hfz17_2
                                      try clear hfz17_3
                                      try clear hfz22_0
                                      try clear hfz22_1
                                      try clear hfz22_2
                                      try clear hfz22_3
                                      try clear hfz24_0
                                      try clear hfz24_1
                                      try clear hfz24_2
                                      try clear hfz24_3
                                      try clear hfz27_0
                                      try clear hfz27_1
                                      try clear hfz27_2
                                      try clear hfz27_3
                                      try clear hfz29_0
                                      try clear hfz29_1
                                      try clear hfz29_2
                                      try clear hfz29_3
                                      try clear hfz31_0
                                      try clear hfz31_1
                                      try clear hfz31_2
                                      try clear hfz31_3
                                      try clear hfz32_0
                                      try clear hfz32_1
                                      try clear hfz32_2
                                      try clear hfz32_3
                                      try clear hfz35_0
                                      try clear hfz35_1
                                      try clear hfz35_2
                                      try clear hfz35_3
                                      try clear hfz9_0
                                      try clear hfz9_1
                                      try clear hfz9_2
                                      try clear hfz9_3
                                      try clear hx110_0
                                      try clear hx110_1
                                      try clear hx110_2
                                      try clear hx110_3
                                      try clear hx115_0
                                      try clear hx115_1
                                      try clear hx115_2
                                      try clear hx115_3
                                      try clear p1
                                      try clear p11
                                      try clear p110
                                      try clear p115
                                      try clear p2
                                      try clear p6
                                      try clear q1
                                      try clear q11
                                      try clear q110
                                      try clear q115
                                      obtain ⟨kq, x11_40, rfl, HA, HJ40, BK111, HB⟩ := hcut
                                      cases kq with
                                      | zero => exact absurd HA.out (by simp [entrepotref19_printed.j5])
                                      | succ kj40 =>
                                        have H := HA.out
                                        clear HA
                                        simp only [entrepotref19_printed.j5] at H
                                        by_cases c44 : ((rd_T39 l0 a1).f0) = 4
                                        · rw [if_pos c44] at H
                                          have c44b0 : (((rd_T39 l0 a1).f0) == 4) = true := beq_iff_eq.mpr c44
                                          have c44b1 : (((rd_T39 l0 a1).f0) != 4) = false := bne_eq_false_iff_eq.mpr c44
                                          clear c44
                                          by_cases c45 : 0 ≤ x1_4
                                          · rw [if_pos c45] at H
                                            have c45b0 : decide (0 ≤ x1_4) = true := decide_eq_true c45
                                            clear c45
                                            by_cases c46 : x1_4 < (l0.length : Int)
                                            · rw [if_pos c46] at H
                                              have c46b0 : decide (x1_4 < (l0.length : Int)) = true := decide_eq_true c46
                                              clear c46
                                              replace H := Option.bind_eq_some_iff.mp H
                                              obtain ⟨⟨t117, t118⟩, A470, H⟩ := H
                                              replace H : (if ((rd_T39 l0 x1_4).f0) = 6 then (entrepotref19_printed.j6 kj40 l0 x1_4 a2 x11_40 x12_33 x13_4 t117 (!t118) ((rd_T39 l0 a1).f0) ((rd_T39 l0 a1).f1) ((rd_T39 l0 a1).f2) ((rd_T39 l0 a1).f3)) else (entrepotref19_printed.j6 kj40 l0 x1_4 a2 x11_40 x12_33 x13_4 t117 true ((rd_T39 l0 a1).f0) ((rd_T39 l0 a1).f1) ((rd_T39 l0 a1).f2) ((rd_T39 l0 a1).f3))) = some (r1, r2) := H
                                              have A47 := Aside0.mk A470
                                              clear A470
                                              have HC48 := Aside0.mk H
                                              clear H
                                              have hcz49_0 : wc.cell? ⟨gb111, 0, none⟩ = some (.int .i64 ((rd_T39 l0 a1).f0)) := (blk_cell BK111.out 0).trans rfl
                                              have hcz49_1 : wc.cell? ⟨gb111, 1, none⟩ = some (.int .i64 ((rd_T39 l0 a1).f1)) := (blk_cell BK111.out 1).trans rfl
                                              have hcz49_2 : wc.cell? ⟨gb111, 2, none⟩ = some (.string ((rd_T39 l0 a1).f2)) := (blk_cell BK111.out 2).trans rfl
                                              have hcz49_3 : wc.cell? ⟨gb111, 3, none⟩ = some (.int .i64 ((rd_T39 l0 a1).f3)) := (blk_cell BK111.out 3).trans rfl
                                              have hfz49_0 := blk_frozen BK111.out 0
                                              have hfz49_1 := blk_frozen BK111.out 1
                                              have hfz49_2 := blk_frozen BK111.out 2
                                              have hfz49_3 := blk_frozen BK111.out 3
                                              have p116 : 0 ≤ (x1_4 : Int) := of_decide_eq_true (by first | (with_reducible assumption) | assumption)
                                              have q116 : x1_4 < (l0.length : Int) := of_decide_eq_true (by first | (with_reducible assumption) | assumption)
                                              obtain ⟨ad116, e116, hx116_0, hx116_1, hx116_2, hx116_3⟩ := at_T39 HR0.out x1_4 p116 q116
                                              obtain rfl : ad110 = ad116 := (by injection e116)
                                              replace hx116_0 := (HB.out.cell (World.block_lt_of_cell? w _ hx116_0)).trans hx116_0
                                              replace hx116_1 := (HB.out.cell (World.block_lt_of_cell? w _ hx116_1)).trans hx116_1
                                              replace hx116_2 := (HB.out.cell (World.block_lt_of_cell? w _ hx116_2)).trans hx116_2
                                              replace hx116_3 := (HB.out.cell (World.block_lt_of_cell? w _ hx116_3)).trans hx116_3
                                              replace p116 := eq_true p116
                                              replace q116 := eq_true q116
                                              go_upto_region 25 with (first | ((with_reducible refine gate_callee (f := 14) rfl ?_); refine goesL_ (some 105) rfl rfl Tryd.func14 (by kernel_rfl) rfl #[.string ((rd_T39 l0 x1_4).f2)] rfl (by (try simp only [List.map_toArray, List.map_cons, List.map_nil]); first | done | rfl | (simp only [List.length_drop, List.length_take]; rfl)) ?_; (with_reducible refine (entrepotref19_Quote.calls ((rd_T39 l0 x1_4).f2) t117 t118 _ A47.out).mono ?_); rintro e w50 ⟨rfl, hb⟩; refine ⟨_, rfl, ?_⟩; have n0_ := Aside0.mk (blk_below (g := gb111) (o := .cells #[.int .i64 ((rd_T39 l0 a1).f0), .int .i64 ((rd_T39 l0 a1).f1), .string ((rd_T39 l0 a1).f2), .int .i64 ((rd_T39 l0 a1).f3)] 39 (0, 0)) (by (with_reducible repeat (first | refine blk_drewN ?_ _ | refine blk_drew ?_ | refine blk_alloc ?_ _)); exact BK111.out) hb); have n1_ := Aside0.mk (below_step (by repeat (first | (with_reducible first | exact HB.out | apply below_alloc | apply pw_below_drewN | apply below_drew1 | refine below_set ?_ GE111.out) | exact HB.out)) hb); clear BK111; clear HB; have BK111 := n0_; have HB := n1_; clear n0_ n1_; (try clear hb); (try clear hb2); (try clear hk); (try clear hi)))
                                              (try simp only [Act.put, List.setIfInBounds_toArray, List.set_cons_zero, List.set_cons_succ])
                                              go_cut [117] (fun v117 wc => ∃ (kq : Nat) (x117_47 : Bool), v117 = .bool x117_47 ∧ Aside0 (entrepotref19_printed.j6 kq l0 x1_4 a2 x11_40 x12_33 x13_4 t117 x117_47 ((rd_T39 l0 a1).f0) ((rd_T39 l0 a1).f1) ((rd_T39 l0 a1).f2) ((rd_T39 l0 a1).f3) = some (r1, r2)) ∧ Aside0 (kq ≤ kj40) ∧ Aside0 (wc.heap[gb111]? = some (.cells #[.int .i64 ((rd_T39 l0 a1).f0), .int .i64 ((rd_T39 l0 a1).f1), .string ((rd_T39 l0 a1).f2), .int .i64 ((rd_T39 l0 a1).f3)] 39 (0, 0))) ∧ Aside0 (Below w.heap.size w wc))
                                              case first =>
                                                have H := HC48.out
                                                clear HC48
                                                by_cases c51 : ((rd_T39 l0 x1_4).f0) = 6
                                                · rw [if_pos c51] at H
                                                  have c51b0 : (((rd_T39 l0 x1_4).f0) == 6) = true := beq_iff_eq.mpr c51
                                                  have c51b1 : (((rd_T39 l0 x1_4).f0) != 6) = false := bne_eq_false_iff_eq.mpr c51
                                                  clear c51
                                                  (first | rw [c51b0] | (simp only [i64_w, i32_w]; rw [c51b0]) | skip)
                                                  have H' := Aside0.mk H
                                                  clear H
                                                  have p119 : 0 ≤ (x1_4 : Int) := of_decide_eq_true (by first | (with_reducible assumption) | assumption)
                                                  have q119 : x1_4 < (l0.length : Int) := of_decide_eq_true (by first | (with_reducible assumption) | assumption)
                                                  obtain ⟨ad119, e119, hx119_0, hx119_1, hx119_2, hx119_3⟩ := at_T39 HR0.out x1_4 p119 q119
                                                  obtain rfl : ad110 = ad119 := (by injection e119)
                                                  replace hx119_0 := (HB.out.cell (World.block_lt_of_cell? w _ hx119_0)).trans hx119_0
                                                  replace hx119_1 := (HB.out.cell (World.block_lt_of_cell? w _ hx119_1)).trans hx119_1
                                                  replace hx119_2 := (HB.out.cell (World.block_lt_of_cell? w _ hx119_2)).trans hx119_2
                                                  replace hx119_3 := (HB.out.cell (World.block_lt_of_cell? w _ hx119_3)).trans hx119_3
                                                  replace p119 := eq_true p119
                                                  replace q119 := eq_true q119
                                                  go_wp2
                                                  go_meet
                                                  case rel => exact ⟨_, (!t118), (by first | rfl | (simp; done) | (simp [*]; done)), H', ⟨by have := HJ6.out; have := HJ25.out; have := HJ33.out; have := HK4.out; have := HJ36.out; have := HJ40.out; first | omega | exact Nat.le_refl _⟩, ⟨by (with_reducible repeat (first | refine blk_drewN ?_ _ | refine blk_drew ?_ | refine blk_alloc ?_ _)); exact BK111.out⟩, ⟨by repeat (first | (with_reducible first | exact HB.out | apply below_alloc | apply pw_below_drewN | apply below_drew1 | refine below_set ?_ GE111.out) | exact HB.out)⟩⟩
                                                · rw [if_neg c51] at H
                                                  have c51b0 : (((rd_T39 l0 x1_4).f0) == 6) = false := beq_eq_false_iff_ne.mpr c51
                                                  have c51b1 : (((rd_T39 l0 x1_4).f0) != 6) = true := bne_iff_ne.mpr c51
                                                  (first | rw [c51b0] | (simp only [i64_w, i32_w]; rw [c51b0]) | skip)
                                                  have H' := Aside0.mk H
                                                  clear H
                                                  have p119 : 0 ≤ (x1_4 : Int) := of_decide_eq_true (by first | (with_reducible assumption) | assumption)
                                                  have q119 : x1_4 < (l0.length : Int) := of_decide_eq_true (by first | (with_reducible assumption) | assumption)
                                                  obtain ⟨ad119, e119, hx119_0, hx119_1, hx119_2, hx119_3⟩ := at_T39 HR0.out x1_4 p119 q119
                                                  obtain rfl : ad110 = ad119 := (by injection e119)
                                                  replace hx119_0 := (HB.out.cell (World.block_lt_of_cell? w _ hx119_0)).trans hx119_0
                                                  replace hx119_1 := (HB.out.cell (World.block_lt_of_cell? w _ hx119_1)).trans hx119_1
                                                  replace hx119_2 := (HB.out.cell (World.block_lt_of_cell? w _ hx119_2)).trans hx119_2
                                                  replace hx119_3 := (HB.out.cell (World.block_lt_of_cell? w _ hx119_3)).trans hx119_3
                                                  replace p119 := eq_true p119
                                                  replace q119 := eq_true q119
                                                  go_wp2
                                                  go_meet
                                                  case rel => exact ⟨_, (true), (by first | rfl | (simp; done) | (simp [*]; done)), H', ⟨by have := HJ6.out; have := HJ25.out; have := HJ33.out; have := HK4.out; have := HJ36.out; have := HJ40.out; first | omega | exact Nat.le_refl _⟩, ⟨by (with_reducible repeat (first | refine blk_drewN ?_ _ | refine blk_drew ?_ | refine blk_alloc ?_ _)); exact BK111.out⟩, ⟨by repeat (first | (with_reducible first | exact HB.out | apply below_alloc | apply pw_below_drewN | apply below_drew1 | refine below_set ?_ GE111.out) | exact HB.out)⟩⟩
                                              case rest =>
                                                clear HC48
                                                try clear c1
                                                try clear p1
                                                try clear q1
                                                try clear hx1
                                                try clear c2
                                                try clear p2
                                                try clear c3
                                                try clear c4
                                                try clear c4b0
                                                try clear c5
                                                try clear c5b0
                                                try clear c6
                                                try clear c6b0
                                                try clear p6
                                                try clear c10
                                                try clear c10b0
                                                try clear c10b1
                                                try clear c11
                                                try clear c11b0
                                                try clear p11
                                                try clear q11
                                                try clear hx11
                                                try clear c14
                                                try clear c15
                                                try clear c19
                                                try clear c19b0
                                                try clear c19b1
                                                try clear c20
                                                try clear c21
                                                try clear c28
                                                try clear c28b0
                                                try clear c28b1
                                                try clear c30
                                                try clear c30b0
                                                try clear c30b1
                                                try clear c33
                                                try clear c35
                                                try clear c36
                                                try clear c36b0
                                                try clear c36b1
                                                try clear c38
                                                try clear c38b0
                                                try clear c39
                                                try clear c39b0
                                                try clear c40
                                                try clear c42
                                                try clear c42b0
                                                try clear c43
                                                try clear c43b0
                                                try clear c43b1
                                                try clear c43b2
                                                try clear c44
                                                try clear c44b0
                                                try clear c44b1
                                                try clear c45
                                                try clear c45b0
                                                try clear c46
                                                try clear c46b0
                                                try clear c51
                                                try clear c51b0
                                                try clear c51b1
                                                try clear hcz12_0
                                                try clear hcz12_1
                                                try clear hcz12_2
                                                try clear hcz12_3
                                                try clear hcz13_0
                                                try clear hcz13_1
                                                try clear hcz13_2
                                                try clear hcz13_3
                                                try clear hcz14_0
                                                try clear hcz14_1
                                                try clear hcz14_2
                                                try clear hcz14_3
                                                try clear hcz17_0
                                                try clear hcz17_1
                                                try clear hcz17_2
                                                try clear hcz17_3
                                                try clear hcz22_0
                                                try clear hcz22_1
                                                try clear hcz22_2
                                                try clear hcz22_3
                                                try clear hcz24_0
                                                try clear hcz24_1
                                                try clear hcz24_2
                                                try clear hcz24_3
                                                try clear hcz27_0
                                                try clear hcz27_1
                                                try clear hcz27_2
                                                try clear hcz27_3
                                                try clear hcz29_0
                                                try clear hcz29_1
                                                try clear hcz29_2
                                                try clear hcz29_3
                                                try clear hcz31_0
                                                try clear hcz31_1
                                                try clear hcz31_2
                                                try clear hcz31_3
                                                try clear hcz32_0
                                                try clear hcz32_1
                                                try clear hcz32_2
                                                try clear hcz32_3
                                                try clear hcz35_0
                                                try clear hcz35_1
                                                try clear hcz35_2
                                                try clear hcz35_3
                                                try clear hcz49_0
                                                try clear hcz49_1
                                                try clear hcz49_2
                                                try clear hcz49_3
                                                try clear hcz9_0
                                                try clear hcz9_1
                                                try clear hcz9_2
                                                try clear hcz9_3
                                                try clear hfz12_0
                                                try clear hfz12_1
                                                try clear hfz12_2
                                                try clear hfz12_3
                                                try clear hfz13_0
                                                try clear hfz13_1
                                                try clear hfz13_2
                                                try clear hfz13_3
                                                try clear hfz14_0
                                                try clear hfz14_1
                                                try clear hfz14_2
                                                try clear hfz14_3
                                                try clear hfz17_0
                                                try clear hfz17_1
                                                try clear hfz17_2
                                                try clear hfz17_3
                                                try clear hfz22_0
                                                try clear hfz22_1
                                                try clear hfz22_2
                                                try clear hfz22_3
                                                try clear hfz24_0
                                                try clear hfz24_1
                                                try clear hfz24_2
                                                try clear hfz24_3
                                                try clear hfz27_0
                                                try clear hfz27_1
                                                try clear hfz27_2
                                                try clear hfz27_3
                                                try clear hfz29_0
                                                try clear hfz29_1
                                                try clear hfz29_2
                                                try clear hfz29_3
                                                try clear hfz31_0
                                                try clear hfz31_1
                                                try clear hfz31_2
                                                try clear hfz31_3
                                                try clear hfz32_0
                                                try clear hfz32_1
                                                try clear hfz32_2
                                                try clear hfz32_3
                                                try clear hfz35_0
                                                try clear hfz35_1
                                                try clear hfz35_2
                                                try clear hfz35_3
                                                try clear hfz49_0
                                                try clear hfz49_1
                                                try clear hfz49_2
                                                try clear hfz49_3
                                                try clear hfz9_0
                                                try clear hfz9_1
                                                try clear hfz9_2
                                                try clear hfz9_3
                                                try clear hx110_0
                                                try clear hx110_1
                                                try clear hx110_2
                                                try clear hx110_3
                                                try clear hx115_0
                                                try clear hx115_1
                                                try clear hx115_2
                                                try clear hx115_3
                                                try clear hx116_0
                                                try clear hx116_1
                                                try clear hx116_2
                                                try clear hx116_3
                                                try clear hx119_0
                                                try clear hx119_1
                                                try clear hx119_2
                                                try clear hx119_3
                                                try clear p1
                                                try clear p11
                                                try clear p110
                                                try clear p115
                                                try clear p116
                                                try clear p119
                                                try clear p2
                                                try clear p6
                                                try clear q1
                                                try clear q11
                                                try clear q110
                                                try clear q115
                                                try clear q116
                                                try clear q119
                                                obtain ⟨kq, x117_47, rfl, HA, HJ47, BK111, HB⟩ := hcut
                                                cases kq with
                                                | zero => exact absurd HA.out (by simp [entrepotref19_printed.j6])
                                                | succ kj47 =>
                                                  have H := HA.out
                                                  clear HA
                                                  simp only [entrepotref19_printed.j6] at H
                                                  by_cases c52 : x117_47 = true
                                                  · subst c52
                                                    have H1 : (some ((⟨#[]⟩ : ByteArray), (-1))) = some (r1, r2) := by rw [if_pos rfl] at H; exact H
                                                    clear H
                                                    have H := H1
                                                    clear H1
                                                    simp only [Option.some.injEq, Prod.mk.injEq] at H
                                                    obtain ⟨rfl, rfl⟩ := H
                                                    go_wp2
                                                    go_ret2
                                                    exact ⟨by first | rfl | (simp [errW_none, errW_some] <;> rfl) | (simp [*, errW_none, errW_some] <;> rfl), by repeat (first | (with_reducible first | exact HB.out | apply below_alloc | apply pw_below_drewN | apply below_drew1 | refine below_set ?_ GE111.out) | exact HB.out)⟩
                                                  · replace c52 := Bool.eq_false_iff.mpr c52
                                                    subst c52
                                                    have H1 : (if x11_40.size + t117.size ≤ 9223372036854775807 then (if (x11_40 ++ t117).size + 1 ≤ 9223372036854775807 then ((entrepotref19_printed.f kj47 l0 (wrap64 (x1_4 + 1)) (wrap64 (a2 + 1))).bind fun bt120 => (if bt120.2 < 0 then (some ((⟨#[]⟩ : ByteArray), (-1))) else (if ((x11_40 ++ t117) ++ (⟨#[58]⟩ : ByteArray)).size + bt120.1.size ≤ 9223372036854775807 then (entrepotref19_printed.l0 kj47 l0 bt120.2 a2 (((x11_40 ++ t117) ++ (⟨#[58]⟩ : ByteArray)) ++ bt120.1) x12_33 (wrap64 (x13_4 + 1)) ((rd_T39 l0 a1).f0) ((rd_T39 l0 a1).f1) ((rd_T39 l0 a1).f2) ((rd_T39 l0 a1).f3)) else (none)))) else (none)) else (none)) = some (r1, r2) := by rw [if_neg (show ¬ (false = true) by decide)] at H; exact H
                                                    clear H
                                                    have H := H1
                                                    clear H1
                                                    by_cases c53 : x11_40.size + t117.size ≤ 9223372036854775807
                                                    · rw [if_pos c53] at H
                                                      have c53b0 := eq_true c53
                                                      have c53b1 : decide (x11_40.size + t117.size ≤ 9223372036854775807) = true := decide_eq_true c53
                                                      try have c53b2 : (9223372036854775807 < x11_40.size + t117.size) = False := eq_false (Nat.not_lt.2 c53)
                                                      by_cases c54 : (x11_40 ++ t117).size + 1 ≤ 9223372036854775807
                                                      · rw [if_pos c54] at H
                                                        have c54b0 := eq_true c54
                                                        have c54b1 : decide ((x11_40 ++ t117).size + 1 ≤ 9223372036854775807) = true := decide_eq_true c54
                                                        try have c54b2 : (9223372036854775807 < (x11_40 ++ t117).size + 1) = False := eq_false (Nat.not_lt.2 c54)
                                                        try have c54b4 : (9223372036854775807 < x11_40.size + t117.size + 1) = False := eq_false (by have h_ := c54; simp only [ByteArray.size_append] at h_; omega)
                                                        replace H := Option.bind_eq_some_iff.mp H
                                                        obtain ⟨⟨t120, t121⟩, A550, H⟩ := H
                                                        replace H : (if t121 < 0 then (some ((⟨#[]⟩ : ByteArray), (-1))) else (if ((x11_40 ++ t117) ++ (⟨#[58]⟩ : ByteArray)).size + t120.size ≤ 9223372036854775807 then (entrepotref19_printed.l0 kj47 l0 t121 a2 (((x11_40 ++ t117) ++ (⟨#[58]⟩ : ByteArray)) ++ t120) x12_33 (wrap64 (x13_4 + 1)) ((rd_T39 l0 a1).f0) ((rd_T39 l0 a1).f1) ((rd_T39 l0 a1).f2) ((rd_T39 l0 a1).f3)) else (none))) = some (r1, r2) := H
                                                        have A55 := Aside0.mk A550
                                                        clear A550
                                                        by_cases c56 : t121 < 0
                                                        · rw [if_pos c56] at H
                                                          have c56b0 : decide (t121 < 0) = true := decide_eq_true c56
                                                          clear c56
                                                          simp only [Option.some.injEq, Prod.mk.injEq] at H
                                                          obtain ⟨rfl, rfl⟩ := H
                                                          go_wp2_with (first | ((with_reducible refine gate_callee (f := 20) rfl ?_); refine goesL_ (some 129) rfl rfl Tryd.func20 (by kernel_rfl) rfl #[.slice (some ad110) l0.length c0, .int .i64 (wrap64 (x1_4 + 1)), .int .i64 (wrap64 (a2 + 1))] rfl (by (try simp only [List.map_toArray, List.map_cons, List.map_nil]); first | done | rfl | (simp only [List.length_drop, List.length_take]; rfl)) ?_; (with_reducible refine (ih kj47 (by have := HJ6.out; have := HJ25.out; have := HJ33.out; have := HK4.out; have := HJ36.out; have := HJ40.out; have := HJ47.out; omega) _ _ l0 (wrap64 (x1_4 + 1)) (wrap64 (a2 + 1)) t120 t121 _ ?side1 ?side2 A55.out).mono ?_); (case side1 => repeat (first | exact (Kd.C_below HR0.out HB.out) | (with_reducible refine Kd.C_alloc ?_ _) | (with_reducible refine Kd.C_drewN ?_ _) | (with_reducible refine Kd.C_drew ?_))); (case side2 => exact HC0.out); rintro e w57 ⟨rfl, hb⟩; refine ⟨_, rfl, ?_⟩; have n0_ := Aside0.mk (blk_below (g := gb111) (o := .cells #[.int .i64 ((rd_T39 l0 a1).f0), .int .i64 ((rd_T39 l0 a1).f1), .string ((rd_T39 l0 a1).f2), .int .i64 ((rd_T39 l0 a1).f3)] 39 (0, 0)) (by (with_reducible repeat (first | refine blk_drewN ?_ _ | refine blk_drew ?_ | refine blk_alloc ?_ _)); exact BK111.out) hb); have n1_ := Aside0.mk (below_step (by repeat (first | (with_reducible first | exact HB.out | apply below_alloc | apply pw_below_drewN | apply below_drew1 | refine below_set ?_ GE111.out) | exact HB.out)) hb); clear BK111; clear HB; have BK111 := n0_; have HB := n1_; clear n0_ n1_; (try clear hb); (try clear hb2); (try clear hk); (try clear hi)))
                                                          go_ret2
                                                          exact ⟨by first | rfl | (simp [errW_none, errW_some] <;> rfl) | (simp [*, errW_none, errW_some] <;> rfl), by repeat (first | (with_reducible first | exact HB.out | apply below_alloc | apply pw_below_drewN | apply below_drew1 | refine below_set ?_ GE111.out) | exact HB.out)⟩
                                                        · rw [if_neg c56] at H
                                                          have c56b0 : decide (t121 < 0) = false := decide_eq_false c56
                                                          clear c56
                                                          by_cases c58 : ((x11_40 ++ t117) ++ (⟨#[58]⟩ : ByteArray)).size + t120.size ≤ 9223372036854775807
                                                          · rw [if_pos c58] at H
                                                            have c58b0 := eq_true c58
                                                            have c58b1 : decide (((x11_40 ++ t117) ++ (⟨#[58]⟩ : ByteArray)).size + t120.size ≤ 9223372036854775807) = true := decide_eq_true c58
                                                            try have c58b2 : (9223372036854775807 < ((x11_40 ++ t117) ++ (⟨#[58]⟩ : ByteArray)).size + t120.size) = False := eq_false (Nat.not_lt.2 c58)
                                                            try have c58b4 : (9223372036854775807 < x11_40.size + t117.size + 1 + t120.size) = False := eq_false (by have h_ := c58; simp only [ByteArray.size_append] at h_; have e0_ : (⟨#[58]⟩ : ByteArray).size = 1 := rfl; omega)
                                                            have H' := Aside0.mk H
                                                            clear H
                                                            go_wp2_with (first | ((with_reducible refine gate_callee (f := 20) rfl ?_); refine goesL_ (some 129) rfl rfl Tryd.func20 (by kernel_rfl) rfl #[.slice (some ad110) l0.length c0, .int .i64 (wrap64 (x1_4 + 1)), .int .i64 (wrap64 (a2 + 1))] rfl (by (try simp only [List.map_toArray, List.map_cons, List.map_nil]); first | done | rfl | (simp only [List.length_drop, List.length_take]; rfl)) ?_; (with_reducible refine (ih kj47 (by have := HJ6.out; have := HJ25.out; have := HJ33.out; have := HK4.out; have := HJ36.out; have := HJ40.out; have := HJ47.out; omega) _ _ l0 (wrap64 (x1_4 + 1)) (wrap64 (a2 + 1)) t120 t121 _ ?side1 ?side2 A55.out).mono ?_); (case side1 => repeat (first | exact (Kd.C_below HR0.out HB.out) | (with_reducible refine Kd.C_alloc ?_ _) | (with_reducible refine Kd.C_drewN ?_ _) | (with_reducible refine Kd.C_drew ?_))); (case side2 => exact HC0.out); rintro e w59 ⟨rfl, hb⟩; refine ⟨_, rfl, ?_⟩; have n0_ := Aside0.mk (blk_below (g := gb111) (o := .cells #[.int .i64 ((rd_T39 l0 a1).f0), .int .i64 ((rd_T39 l0 a1).f1), .string ((rd_T39 l0 a1).f2), .int .i64 ((rd_T39 l0 a1).f3)] 39 (0, 0)) (by (with_reducible repeat (first | refine blk_drewN ?_ _ | refine blk_drew ?_ | refine blk_alloc ?_ _)); exact BK111.out) hb); have n1_ := Aside0.mk (below_step (by repeat (first | (with_reducible first | exact HB.out | apply below_alloc | apply pw_below_drewN | apply below_drew1 | refine below_set ?_ GE111.out) | exact HB.out)) hb); clear BK111; clear HB; have BK111 := n0_; have HB := n1_; clear n0_ n1_; (try clear hb); (try clear hb2); (try clear hk); (try clear hi)))
                                                            go_roundg kj47
                                                            case measure => have := HJ6.out; have := HJ25.out; have := HJ33.out; have := HK4.out; have := HJ36.out; have := HJ40.out; have := HJ47.out; omega
                                                            case rel => exact ⟨(t121), (((x11_40 ++ t117) ++ (⟨#[58]⟩ : ByteArray)) ++ t120), (wrap64 (x13_4 + 1)), (by first | rfl | (simp; done) | (simp [*]; done)), (by first | rfl | (simp; done) | (simp [*]; done)), (by first | rfl | (simp; done) | (simp [*]; done)), H', ⟨by have := HJ6.out; have := HJ25.out; have := HJ33.out; have := HK4.out; have := HJ36.out; have := HJ40.out; have := HJ47.out; omega⟩, ⟨by (with_reducible repeat (first | refine blk_drewN ?_ _ | refine blk_drew ?_ | refine blk_alloc ?_ _)); exact BK111.out⟩, ⟨by repeat (first | (with_reducible first | exact HB.out | apply below_alloc | apply pw_below_drewN | apply below_drew1 | refine below_set ?_ GE111.out) | exact HB.out)⟩⟩
                                                          · rw [if_neg c58] at H
                                                            exact absurd H (by simp)
                                                      · rw [if_neg c54] at H
                                                        exact absurd H (by simp)
                                                    · rw [if_neg c53] at H
                                                      exact absurd H (by simp)
                                            · rw [if_neg c46] at H
                                              exact absurd H (by simp)
                                          · rw [if_neg c45] at H
                                            exact absurd H (by simp)
                                        · rw [if_neg c44] at H
                                          have c44b0 : (((rd_T39 l0 a1).f0) == 4) = false := beq_eq_false_iff_ne.mpr c44
                                          have c44b1 : (((rd_T39 l0 a1).f0) != 4) = true := bne_iff_ne.mpr c44
                                          replace H := Option.bind_eq_some_iff.mp H
                                          obtain ⟨⟨t122, t123⟩, A600, H⟩ := H
                                          replace H : (if t123 < 0 then (some ((⟨#[]⟩ : ByteArray), (-1))) else (if x11_40.size + t122.size ≤ 9223372036854775807 then (entrepotref19_printed.l0 kj40 l0 t123 a2 (x11_40 ++ t122) x12_33 (wrap64 (x13_4 + 1)) ((rd_T39 l0 a1).f0) ((rd_T39 l0 a1).f1) ((rd_T39 l0 a1).f2) ((rd_T39 l0 a1).f3)) else (none))) = some (r1, r2) := H
                                          have A60 := Aside0.mk A600
                                          clear A600
                                          by_cases c61 : t123 < 0
                                          · rw [if_pos c61] at H
                                            have c61b0 : decide (t123 < 0) = true := decide_eq_true c61
                                            clear c61
                                            simp only [Option.some.injEq, Prod.mk.injEq] at H
                                            obtain ⟨rfl, rfl⟩ := H
                                            have hcz62_0 : wc.cell? ⟨gb111, 0, none⟩ = some (.int .i64 ((rd_T39 l0 a1).f0)) := (blk_cell BK111.out 0).trans rfl
                                            have hcz62_1 : wc.cell? ⟨gb111, 1, none⟩ = some (.int .i64 ((rd_T39 l0 a1).f1)) := (blk_cell BK111.out 1).trans rfl
                                            have hcz62_2 : wc.cell? ⟨gb111, 2, none⟩ = some (.string ((rd_T39 l0 a1).f2)) := (blk_cell BK111.out 2).trans rfl
                                            have hcz62_3 : wc.cell? ⟨gb111, 3, none⟩ = some (.int .i64 ((rd_T39 l0 a1).f3)) := (blk_cell BK111.out 3).trans rfl
                                            have hfz62_0 := blk_frozen BK111.out 0
                                            have hfz62_1 := blk_frozen BK111.out 1
                                            have hfz62_2 := blk_frozen BK111.out 2
                                            have hfz62_3 := blk_frozen BK111.out 3
                                            go_wp2_with (first | ((with_reducible refine gate_callee (f := 20) rfl ?_); refine goesL_ (some 129) rfl rfl Tryd.func20 (by kernel_rfl) rfl #[.slice (some ad110) l0.length c0, .int .i64 x1_4, .int .i64 (wrap64 (a2 + 1))] rfl (by (try simp only [List.map_toArray, List.map_cons, List.map_nil]); first | done | rfl | (simp only [List.length_drop, List.length_take]; rfl)) ?_; (with_reducible refine (ih kj40 (by have := HJ6.out; have := HJ25.out; have := HJ33.out; have := HK4.out; have := HJ36.out; have := HJ40.out; omega) _ _ l0 x1_4 (wrap64 (a2 + 1)) t122 t123 _ ?side1 ?side2 A60.out).mono ?_); (case side1 => repeat (first | exact (Kd.C_below HR0.out HB.out) | (with_reducible refine Kd.C_alloc ?_ _) | (with_reducible refine Kd.C_drewN ?_ _) | (with_reducible refine Kd.C_drew ?_))); (case side2 => exact HC0.out); rintro e w63 ⟨rfl, hb⟩; refine ⟨_, rfl, ?_⟩; have n0_ := Aside0.mk (blk_below (g := gb111) (o := .cells #[.int .i64 ((rd_T39 l0 a1).f0), .int .i64 ((rd_T39 l0 a1).f1), .string ((rd_T39 l0 a1).f2), .int .i64 ((rd_T39 l0 a1).f3)] 39 (0, 0)) (by (with_reducible repeat (first | refine blk_drewN ?_ _ | refine blk_drew ?_ | refine blk_alloc ?_ _)); exact BK111.out) hb); have n1_ := Aside0.mk (below_step (by repeat (first | (with_reducible first | exact HB.out | apply below_alloc | apply pw_below_drewN | apply below_drew1 | refine below_set ?_ GE111.out) | exact HB.out)) hb); clear BK111; clear HB; have BK111 := n0_; have HB := n1_; clear n0_ n1_; (try clear hb); (try clear hb2); (try clear hk); (try clear hi)))
                                            go_ret2
                                            exact ⟨by first | rfl | (simp [errW_none, errW_some] <;> rfl) | (simp [*, errW_none, errW_some] <;> rfl), by repeat (first | (with_reducible first | exact HB.out | apply below_alloc | apply pw_below_drewN | apply below_drew1 | refine below_set ?_ GE111.out) | exact HB.out)⟩
                                          · rw [if_neg c61] at H
                                            have c61b0 : decide (t123 < 0) = false := decide_eq_false c61
                                            clear c61
                                            by_cases c64 : x11_40.size + t122.size ≤ 9223372036854775807
                                            · rw [if_pos c64] at H
                                              have c64b0 := eq_true c64
                                              have c64b1 : decide (x11_40.size + t122.size ≤ 9223372036854775807) = true := decide_eq_true c64
                                              try have c64b2 : (9223372036854775807 < x11_40.size + t122.size) = False := eq_false (Nat.not_lt.2 c64)
                                              have H' := Aside0.mk H
                                              clear H
                                              have hcz65_0 : wc.cell? ⟨gb111, 0, none⟩ = some (.int .i64 ((rd_T39 l0 a1).f0)) := (blk_cell BK111.out 0).trans rfl
                                              have hcz65_1 : wc.cell? ⟨gb111, 1, none⟩ = some (.int .i64 ((rd_T39 l0 a1).f1)) := (blk_cell BK111.out 1).trans rfl
                                              have hcz65_2 : wc.cell? ⟨gb111, 2, none⟩ = some (.string ((rd_T39 l0 a1).f2)) := (blk_cell BK111.out 2).trans rfl
                                              have hcz65_3 : wc.cell? ⟨gb111, 3, none⟩ = some (.int .i64 ((rd_T39 l0 a1).f3)) := (blk_cell BK111.out 3).trans rfl
                                              have hfz65_0 := blk_frozen BK111.out 0
                                              have hfz65_1 := blk_frozen BK111.out 1
                                              have hfz65_2 := blk_frozen BK111.out 2
                                              have hfz65_3 := blk_frozen BK111.out 3
                                              go_wp2_with (first | ((with_reducible refine gate_callee (f := 20) rfl ?_); refine goesL_ (some 129) rfl rfl Tryd.func20 (by kernel_rfl) rfl #[.slice (some ad110) l0.length c0, .int .i64 x1_4, .int .i64 (wrap64 (a2 + 1))] rfl (by (try simp only [List.map_toArray, List.map_cons, List.map_nil]); first | done | rfl | (simp only [List.length_drop, List.length_take]; rfl)) ?_; (with_reducible refine (ih kj40 (by have := HJ6.out; have := HJ25.out; have := HJ33.out; have := HK4.out; have := HJ36.out; have := HJ40.out; omega) _ _ l0 x1_4 (wrap64 (a2 + 1)) t122 t123 _ ?side1 ?side2 A60.out).mono ?_); (case side1 => repeat (first | exact (Kd.C_below HR0.out HB.out) | (with_reducible refine Kd.C_alloc ?_ _) | (with_reducible refine Kd.C_drewN ?_ _) | (with_reducible refine Kd.C_drew ?_))); (case side2 => exact HC0.out); rintro e w66 ⟨rfl, hb⟩; refine ⟨_, rfl, ?_⟩; have n0_ := Aside0.mk (blk_below (g := gb111) (o := .cells #[.int .i64 ((rd_T39 l0 a1).f0), .int .i64 ((rd_T39 l0 a1).f1), .string ((rd_T39 l0 a1).f2), .int .i64 ((rd_T39 l0 a1).f3)] 39 (0, 0)) (by (with_reducible repeat (first | refine blk_drewN ?_ _ | refine blk_drew ?_ | refine blk_alloc ?_ _)); exact BK111.out) hb); have n1_ := Aside0.mk (below_step (by repeat (first | (with_reducible first | exact HB.out | apply below_alloc | apply pw_below_drewN | apply below_drew1 | refine below_set ?_ GE111.out) | exact HB.out)) hb); clear BK111; clear HB; have BK111 := n0_; have HB := n1_; clear n0_ n1_; (try clear hb); (try clear hb2); (try clear hk); (try clear hi)))
                                              go_roundg kj40
                                              case measure => have := HJ6.out; have := HJ25.out; have := HJ33.out; have := HK4.out; have := HJ36.out; have := HJ40.out; omega
                                              case rel => exact ⟨(t123), (x11_40 ++ t122), (wrap64 (x13_4 + 1)), (by first | rfl | (simp; done) | (simp [*]; done)), (by first | rfl | (simp; done) | (simp [*]; done)), (by first | rfl | (simp; done) | (simp [*]; done)), H', ⟨by have := HJ6.out; have := HJ25.out; have := HJ33.out; have := HK4.out; have := HJ36.out; have := HJ40.out; omega⟩, ⟨by (with_reducible repeat (first | refine blk_drewN ?_ _ | refine blk_drew ?_ | refine blk_alloc ?_ _)); exact BK111.out⟩, ⟨by repeat (first | (with_reducible first | exact HB.out | apply below_alloc | apply pw_below_drewN | apply below_drew1 | refine below_set ?_ GE111.out) | exact HB.out)⟩⟩
                                            · rw [if_neg c64] at H
                                              exact absurd H (by simp)
                                  · replace c40 := Bool.eq_false_iff.mpr c40
                                    subst c40
                                    have H1 : (if x1_4 < (l0.length : Int) then (if x11_4.size + x12_33.size ≤ 9223372036854775807 then (some (x11_4 ++ x12_33, wrap64 (x1_4 + 1))) else (none)) else (some ((⟨#[]⟩ : ByteArray), (-1)))) = some (r1, r2) := by rw [if_neg (show ¬ (false = true) by decide)] at H; exact H
                                    clear H
                                    have H := H1
                                    clear H1
                                    by_cases c67 : x1_4 < (l0.length : Int)
                                    · rw [if_pos c67] at H
                                      have c67b0 : decide (x1_4 < (l0.length : Int)) = true := decide_eq_true c67
                                      clear c67
                                      by_cases c68 : x11_4.size + x12_33.size ≤ 9223372036854775807
                                      · rw [if_pos c68] at H
                                        have c68b0 := eq_true c68
                                        have c68b1 : decide (x11_4.size + x12_33.size ≤ 9223372036854775807) = true := decide_eq_true c68
                                        try have c68b2 : (9223372036854775807 < x11_4.size + x12_33.size) = False := eq_false (Nat.not_lt.2 c68)
                                        simp only [Option.some.injEq, Prod.mk.injEq] at H
                                        obtain ⟨rfl, rfl⟩ := H
                                        go_wp2
                                        go_ret2
                                        exact ⟨by first | rfl | (simp [errW_none, errW_some] <;> rfl) | (simp [*, errW_none, errW_some] <;> rfl), by repeat (first | (with_reducible first | exact HB.out | apply below_alloc | apply pw_below_drewN | apply below_drew1 | refine below_set ?_ GE111.out) | exact HB.out)⟩
                                      · rw [if_neg c68] at H
                                        exact absurd H (by simp)
                                    · rw [if_neg c67] at H
                                      have c67b0 : decide (x1_4 < (l0.length : Int)) = false := decide_eq_false c67
                                      clear c67
                                      simp only [Option.some.injEq, Prod.mk.injEq] at H
                                      obtain ⟨rfl, rfl⟩ := H
                                      go_wp2
                                      go_ret2
                                      exact ⟨by first | rfl | (simp [errW_none, errW_some] <;> rfl) | (simp [*, errW_none, errW_some] <;> rfl), by repeat (first | (with_reducible first | exact HB.out | apply below_alloc | apply pw_below_drewN | apply below_drew1 | refine below_set ?_ GE111.out) | exact HB.out)⟩
                    · replace c33 := Bool.eq_false_iff.mpr c33
                      subst c33
                      have H1 : (some ((⟨#[]⟩ : ByteArray), (-1))) = some (r1, r2) := by rw [if_neg (show ¬ (false = true) by decide)] at H; exact H
                      clear H
                      have H := H1
                      clear H1
                      simp only [Option.some.injEq, Prod.mk.injEq] at H
                      obtain ⟨rfl, rfl⟩ := H
                      go_wp2
                      go_ret2
                      exact ⟨by first | rfl | (simp [errW_none, errW_some] <;> rfl) | (simp [*, errW_none, errW_some] <;> rfl), by repeat (first | (with_reducible first | exact HB.out | apply below_alloc | apply pw_below_drewN | apply below_drew1 | refine below_set ?_ GE111.out) | exact HB.out)⟩
      · rw [if_neg c6] at H
        exact absurd H (by simp)
    · rw [if_neg c5] at H
      exact absurd H (by simp)

end Go.Proofs.YtainnkpoibgkcaaDoor.PAll
