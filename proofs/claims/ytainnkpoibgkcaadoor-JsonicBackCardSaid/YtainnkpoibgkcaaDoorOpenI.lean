/- A slice of items that came in: what it reads as. Condition: none. -/
import Derived.Test.YtainnkpoibgkcaaDoorRows
import Derived.Test.YtainnkpoibgkcaaDoorGivenX
import Derived.Stop.LaidErr
import Derived.MakeChecks
import Derived.LaidLaws
import Derived.Lib.LaidTab
import Derived.Test.YtainnkpoibgkcaaDoorPAllx0
import Derived.Deep.Slices
import Derived.ChangeSame
import Derived.Carry
namespace Go.Proofs.YtainnkpoibgkcaaDoor
set_option linter.unusedVariables false
open Go.RowKit

theorem star : "*" ++ "errors.errorString" = "*errors.errorString" := by decide
theorem row132 (u : TypeId) (h : Tryd.prog.typeName? 3 u = some "*errors.errorString") : u = 132 :=
  typeName_ptr_named (nm := "errors.errorString") (by rw [star]; kernel_rfl) (by kernel_rfl) (by decide) u (by rw [star]; exact h)
theorem err_of {n : String} {g : Nat} {text : List UInt8} {r : List (String × DataW Unit)} {W : World} (h : laidMet Tryd.prog ((n, .iface "*errors.errorString" (.ptr (.agg [.lit (.string text)]))) :: r) W)
    (hg : Tryd.prog.globalNamed n = some g) (ht : (Tryd.prog.globals[g]?).map (·.type) = some 58) : errAt W g := by
  obtain ⟨a, s, hv, _⟩ := laid_sentinel h hg ht Tryd.underlying58 row132 Tryd.underlying132 Tryd.underlying134 rfl rfl Tryd.underlying9 (by kernel_rfl) (by kernel_rfl)
  have := World.var?_cell hg hv 0
  exact ⟨_, by simpa using this, .inr ⟨_, _, rfl⟩⟩
theorem tab_of_laid {W : World} (h : laidMetH Tryd.prog Rows.jsonicDeepRow.laid W) : Tab W := by
  have h1 : laidMet Tryd.prog Rows.jsonicDeepRow.laid W := by
    rw [← MakeChecks.laidMetH_plain _ _ _ (by kernel_rfl)]; exact h
  have h2 := h1.tail.tail
  have h3 := h2.tail.tail
  have h4 := h3.tail
  refine ⟨?_, err_of (g := 2) h4 (by kernel_rfl) (by kernel_rfl), err_of (g := 3) h3 (by kernel_rfl) (by kernel_rfl)⟩
  exact Lib.tabIs_of_head (g := 1) (k := .u64) (zs := Lib.pow10Tab) (by kernel_rfl) (by kernel_rfl) Tryd.underlying116 Tryd.underlying82 (by kernel_rfl) (by kernel_rfl) h2

abbrev rangeS : ByteArray := { data := #[118, 97, 108, 117, 101, 32, 111, 117, 116, 32, 111, 102, 32, 114, 97, 110, 103, 101] }
abbrev syntaxS : ByteArray := { data := #[105, 110, 118, 97, 108, 105, 100, 32, 115, 121, 110, 116, 97, 120] }
noncomputable def low : Nat := (World.holding Tryd.prog default ⟨#[], #[], []⟩).heap.size
def setTab (k : IntKind) (cs : List Int) : Obj → Obj
  | .cells _ t frozen => .cells (cs.map fun n => Value.int k n).toArray t frozen
  | o => o
def setErr (b : Nat) : Obj → Obj
  | .cells _ t frozen => .cells #[.iface 132 (.pointer (some ⟨b, 0, none⟩))] t frozen
  | o => o
def d32 : List Int := [0, 1, 28, 2, 29, 14, 24, 3, 30, 22, 20, 15, 25, 17, 4, 8, 31, 27, 13, 23, 21, 19, 16, 7, 26, 12, 18, 6, 11, 5, 10, 9]
def d64 : List Int := [0, 1, 56, 2, 57, 49, 28, 3, 61, 58, 42, 50, 38, 29, 17, 4, 62, 47, 59, 36, 45, 43, 51, 22, 53, 39, 33, 30, 24, 18, 12, 5, 63, 55, 48, 27, 60, 41, 37, 16, 46, 35, 44, 21, 52, 32, 23, 11, 54, 26, 40, 15, 34, 20, 31, 10, 25, 14, 19, 9, 13, 8, 7, 6]
def acc : List Int := [128, 191, 160, 191, 128, 159, 144, 191, 128, 143, 0, 0, 0, 0, 0, 0, 0, 0, 0, 0, 0, 0, 0, 0, 0, 0, 0, 0, 0, 0, 0, 0]
noncomputable def laidWorld (os : Os) : World :=
  let w0 := World.holding Tryd.prog os ⟨#[.cells #[.string rangeS] 134, .cells #[.string syntaxS] 134], #[], []⟩
  { w0 with heap := ((((((w0.heap.modify 1 (setTab .u64 Lib.pow10Tab)).modify 2 (setErr (low + 1))).modify 3 (setErr low)).modify 4 (setTab .u8 (Go.Pinned.utf8FirstZ.map fun (n : Nat) => (n : Int)))).modify 5 (setTab .u8 acc)).modify 6 (setTab .u8 d32)).modify 7 (setTab .u8 d64) }
end Go.Proofs.YtainnkpoibgkcaaDoor
namespace Go.Proofs.YtainnkpoibgkcaaDoor
open Go.RowKit Go.ChangeShapes Go.WideShapes Go.Proofs.YtainnkpoibgkcaaDoor.PAll Go.Proofs.YtainnkpoibgkcaaDoorW.PrintWords
theorem laidOut : laidOutB Tryd.prog = true := by kernel_rfl
/-- A slice that came in, its elements opened by a law of their own. -/
theorem open_kd {T : Type} {H : Type} {enc : TypeId × Value → H} {W : World} {base : Nat} {sp : Nat → Bool} {held : Bool} {t e : TypeId} (K : Kd T) (z : T) (Q : T → Prop) (ht : Tryd.prog.underlying t = some (.slice e)) (hz : Tryd.prog.cellsOf e = K.sz)
    (elem : ∀ n cs y, DataW.trod enc Tryd.prog W base sp held n e cs = some y → ∃ x : T, K.K W x cs ∧ Q x) {fuel : Nat} {cs : List Value} {x : DataW H × List MemPlace} (h : DataW.trod enc Tryd.prog W base sp held fuel t cs = some x) :
    ∃ (A : Option Addr) (c : Nat) (l : List T), cs = [.slice A l.length c] ∧ l.length ≤ c ∧ c ≤ maxLen ∧ Kd.C K W A l.length l ∧ ∀ x ∈ l, Q x := by
  rcases Go.Deep.open_slice ht h with ⟨rfl, _⟩ | ⟨a, len, cap, m, n, D, Pl, rfl, hb, hl, hm, hmm, hx, hi⟩
  · exact ⟨none, 0, [], rfl, Nat.le_refl _, Nat.zero_le _, ⟨rfl, Nat.zero_le _, fun h => absurd h (Nat.lt_irrefl 0)⟩, fun x hx => by cases hx⟩
  · have hlm : len ≤ m := by rw [hmm]; split <;> omega
    have each : ∀ i, i < len → ∃ q : T, ∃ cs', K.K W q cs' ∧ Q q ∧ ∀ j u, cs'[j]? = some u → W.cell? (a.add (i * K.sz + j)) = some u := by
      intro i hil
      obtain ⟨cs', h1, h2⟩ := hi i (by omega)
      obtain ⟨q, hq, hQ⟩ := elem _ _ _ h2
      obtain ⟨_, hlen, hcell⟩ := World.cells?_some h1
      refine ⟨q, cs', hq, hQ, fun j u hu => ?_⟩
      have hj : j < cs'.length := (List.getElem?_eq_some_iff.1 hu).1
      have := hcell j (by omega)
      rw [Go.Deep.add_add, hz] at this
      rw [this, hu]
    obtain ⟨q, hq⟩ : ∃ q : Nat → T, ∀ i, i < len → ∃ cs', K.K W (q i) cs' ∧ Q (q i) ∧ ∀ j u, cs'[j]? = some u → W.cell? (a.add (i * K.sz + j)) = some u := by
      refine ⟨fun i => if h : i < len then Classical.choose (each i h) else z, fun i h => ?_⟩
      simp only [dif_pos h]
      exact Classical.choose_spec (each i h)
    have hmax : maxLen ≤ 9223372036854775807 := by decide
    refine ⟨some a, cap, (List.range len).map q, by simp, by simpa using hl, hm, ?_, fun x hx => ?_⟩
    · rw [List.length_map, List.length_range]
      refine ⟨by simp, by omega, fun _ => ⟨a, rfl, fun j p hp => ?_⟩⟩
      simp only [List.getElem?_map, Option.map_eq_some_iff] at hp
      obtain ⟨j', hj', rfl⟩ := hp
      obtain ⟨hjl, e⟩ := List.getElem?_eq_some_iff.1 hj'
      rw [List.getElem_range] at e
      subst e
      rw [List.length_range] at hjl
      obtain ⟨cs', h1, _, h3⟩ := hq j hjl
      exact ⟨cs', K.K_len h1, h1, h3⟩
    · obtain ⟨i, hi, rfl⟩ := List.mem_map.1 hx
      exact (hq i (List.mem_range.1 hi)).choose_spec.2.1
set_option maxRecDepth 100000 in
theorem open_item {H : Type} {enc : TypeId × Value → H} {W : World} {base : Nat} {sp : Nat → Bool} {held : Bool} (n : Nat) (cs : List Value) (y : DataW H × List MemPlace) (h : DataW.trod enc Tryd.prog W base sp held n 38 cs = some y) :
    ∃ x : S38, k38.K W x cs ∧ (-9223372036854775808 ≤ x.f1 ∧ x.f1 ≤ 9223372036854775807) := by
  obtain ⟨xs, k, _, rfl, hl, hlen, hf⟩ := DataW.trod_struct Tryd.underlying38 h
  have hl4 : cs.length = 4 := hl.trans (by kernel_rfl)
  match xs, hlen, cs, hl4 with
  | [y0, y1, y2, y3], _, [c0, c1, c2, c3], _ =>
    have k3 : Tryd.prog.cellsOf 3 = 1 := by kernel_rfl
    have k9 : Tryd.prog.cellsOf 9 = 1 := by kernel_rfl
    have g0 : DataW.trod enc Tryd.prog W base sp held k 3 (([c0, c1, c2, c3].drop 0).take (Tryd.prog.cellsOf 3)) = some y0 := hf 0 _ rfl
    have g1 : DataW.trod enc Tryd.prog W base sp held k 3 (([c0, c1, c2, c3].drop 1).take (Tryd.prog.cellsOf 3)) = some y1 := hf 1 _ rfl
    have g2 : DataW.trod enc Tryd.prog W base sp held k 9 (([c0, c1, c2, c3].drop 2).take (Tryd.prog.cellsOf 9)) = some y2 := hf 2 _ rfl
    have g3 : DataW.trod enc Tryd.prog W base sp held k 3 (([c0, c1, c2, c3].drop 3).take (Tryd.prog.cellsOf 3)) = some y3 := hf 3 _ rfl
    rw [k3] at g0 g1 g3
    rw [k9] at g2
    simp only [List.drop_zero, List.drop_succ_cons, List.take_succ_cons, List.take_zero] at g0 g1 g2 g3
    obtain ⟨a0, e0, _, _⟩ := DataW.trod_int (P := Tryd.prog) Tryd.underlying3 g0
    obtain ⟨a1, e1, _, w1⟩ := DataW.trod_int (P := Tryd.prog) Tryd.underlying3 g1
    obtain ⟨a2, e2, _, _⟩ := DataW.trod_string (P := Tryd.prog) Tryd.underlying9 g2
    obtain ⟨a3, e3, _, _⟩ := DataW.trod_int (P := Tryd.prog) Tryd.underlying3 g3
    simp only [List.cons.injEq, and_true] at e0 e1 e2 e3
    subst e0 e1 e2 e3
    refine ⟨⟨a0, a1, a2, a3⟩, k38_mk W ⟨a0, a1, a2, a3⟩, ?_⟩
    simpa [Lit.wf, IntKind.min, IntKind.max, IntKind.signed, IntKind.bits] using w1
end Go.Proofs.YtainnkpoibgkcaaDoor
