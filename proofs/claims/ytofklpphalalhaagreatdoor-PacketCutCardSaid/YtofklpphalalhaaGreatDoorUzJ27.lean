/- Texts of this claim, joined: OpenP, GivenY. Each as it was, cut to what the claim uses. Conditions: each theorem's own. -/
import Derived.Test.YtofklpphalalhaaGreatDoorRows
import Derived.Test.YtofklpphalalhaaGreatDoorUzJ26
import Derived.MakeChecks
import Derived.LaidLaws
import Derived.Lib.LaidTab
import Derived.Deep.Slices
import Derived.Deep.DeepHandedRow
import Derived.ChangeSame
import Derived.Carry
import Derived.Test.YtofklpphalalhaaGreatDoorUzJ18
import Derived.Deep.DeepCutAuto
import Derived.Deep.CutBlock
section
namespace Go.Proofs.YtofklpphalalhaaGreatDoor
set_option linter.unusedVariables false
open Go.RowKit Go.ChangeShapes Go.WideShapes Go.Proofs.YtofklpphalalhaaGreatDoor.PAll Go.Proofs.YtofklpphalalhaaGreatDoorW.PrintWords
theorem laidOut : laidOutB Tryz.prog = true := by kernel_rfl
/-- A slice that came in, its elements opened by a law of their own. -/
theorem open_kd {T : Type} {H : Type} {enc : TypeId × Value → H} {W : World} {base : Nat} {sp : Nat → Bool} {held : Bool} {t e : TypeId} (K : Kd T) (z : T) (Q : T → Prop) (ht : Tryz.prog.underlying t = some (.slice e)) (hz : Tryz.prog.cellsOf e = K.sz)
    (elem : ∀ n cs y, DataW.trod enc Tryz.prog W base sp held n e cs = some y → ∃ x : T, K.K W x cs ∧ Q x) {fuel : Nat} {cs : List Value} {x : DataW H × List MemPlace} (h : DataW.trod enc Tryz.prog W base sp held fuel t cs = some x) :
    ∃ (A : Option Addr) (c : Nat) (l : List T), cs = [.slice A l.length c] ∧ l.length ≤ c ∧ c ≤ maxLen ∧ Kd.C K W A l.length l ∧ ∀ x ∈ l, Q x := by
  rcases Go.Deep.open_slice ht h with ⟨rfl, _⟩ | ⟨a, len, cap, m, n, D, Pl, rfl, hb, hl, hm, hmm, hx, hi⟩
  · exact ⟨none, 0, [], rfl, Nat.le_refl _, Nat.zero_le _, ⟨rfl, Nat.zero_le _, fun h => absurd h (Nat.lt_irrefl 0)⟩, fun x hx => by cases hx⟩
  · have hlm : len ≤ m := by rw [hmm]; split <;> omega
    have each : ∀ i, i < len → ∃ q : T, ∃ cs', K.K W q cs' ∧ Q q ∧ ∀ j u, cs'[j]? = some u → W.cell? (a.add (i * K.sz + j)) = some u := by
      intro i hil
      obtain ⟨cs', h1, h2⟩ := hi i (by omega)
      obtain ⟨q, hq, hQ⟩ := elem _ _ _ h2
      obtain ⟨_, hlen, hcell⟩ := World.cells?_some h1
      refine ⟨q, cs', hq, hQ, fun j u hu => ?_⟩
      have hj : j < cs'.length := (List.getElem?_eq_some_iff.1 hu).1
      have := hcell j (by omega)
      rw [Go.Deep.add_add, hz] at this
      rw [this, hu]
    obtain ⟨q, hq⟩ : ∃ q : Nat → T, ∀ i, i < len → ∃ cs', K.K W (q i) cs' ∧ Q (q i) ∧ ∀ j u, cs'[j]? = some u → W.cell? (a.add (i * K.sz + j)) = some u := by
      refine ⟨fun i => if h : i < len then Classical.choose (each i h) else z, fun i h => ?_⟩
      simp only [dif_pos h]
      exact Classical.choose_spec (each i h)
    have hmax : maxLen ≤ 9223372036854775807 := by decide
    refine ⟨some a, cap, (List.range len).map q, by simp, by simpa using hl, hm, ?_, fun x hx => ?_⟩
    · rw [List.length_map, List.length_range]
      refine ⟨by simp, by omega, fun _ => ⟨a, rfl, fun j p hp => ?_⟩⟩
      simp only [List.getElem?_map, Option.map_eq_some_iff] at hp
      obtain ⟨j', hj', rfl⟩ := hp
      obtain ⟨hjl, e⟩ := List.getElem?_eq_some_iff.1 hj'
      rw [List.getElem_range] at e
      subst e
      rw [List.length_range] at hjl
      obtain ⟨cs', h1, _, h3⟩ := hq j hjl
      exact ⟨cs', K.K_len h1, h1, h3⟩
    · obtain ⟨i, hi, rfl⟩ := List.mem_map.1 hx
      exact (hq i (List.mem_range.1 hi)).choose_spec.2.1
section
variable {H : Type} {enc : TypeId × Value → H} {W : World} {base : Nat} {sp : Nat → Bool} {held : Bool}
theorem open_in64 (n : Nat) (c : Value) (y : DataW H × List MemPlace) (h : DataW.trod enc Tryz.prog W base sp held n 3 [c] = some y) : ∃ a : Int, c = .int .i64 a ∧ InI a := by
  obtain ⟨a, e, _, w⟩ := DataW.trod_int (P := Tryz.prog) Tryz.underlying3 h
  simp only [List.cons.injEq, and_true] at e
  exact ⟨a, e, by simpa [Lit.wf, IntKind.min, IntKind.max, IntKind.signed, IntKind.bits, InI] using w⟩
theorem open_int_elem (n : Nat) (cs : List Value) (y : DataW H × List MemPlace) (h : DataW.trod enc Tryz.prog W base sp held n 3 cs = some y) : ∃ a : Int, (Kd.int .i64).K W a cs ∧ True := by
  obtain ⟨a, e, _, w⟩ := DataW.trod_int (P := Tryz.prog) Tryz.underlying3 h
  exact ⟨a, e, trivial⟩
set_option maxRecDepth 100000 in
theorem open_node (n : Nat) (cs : List Value) (y : DataW H × List MemPlace) (h : DataW.trod enc Tryz.prog W base sp held n 71 cs = some y) : ∃ x : S71, k71.K W x cs ∧ NodeOk x := by
  obtain ⟨xs, k, _, rfl, hl, hlen, hf⟩ := DataW.trod_struct Tryz.underlying71 h
  have hl7 : cs.length = 7 := hl.trans (by kernel_rfl)
  match xs, hlen, cs, hl7 with
  | [y0, y1, y2, y3, y4, y5, y6], _, [c0, c1, c2, c3, c4, c5, c6], _ =>
    have k3 : Tryz.prog.cellsOf 3 = 1 := by kernel_rfl
    have g0 : DataW.trod enc Tryz.prog W base sp held k 3 (([c0, c1, c2, c3, c4, c5, c6].drop 0).take (Tryz.prog.cellsOf 3)) = some y0 := hf 0 _ rfl
    have g1 : DataW.trod enc Tryz.prog W base sp held k 3 (([c0, c1, c2, c3, c4, c5, c6].drop 1).take (Tryz.prog.cellsOf 3)) = some y1 := hf 1 _ rfl
    have g2 : DataW.trod enc Tryz.prog W base sp held k 3 (([c0, c1, c2, c3, c4, c5, c6].drop 2).take (Tryz.prog.cellsOf 3)) = some y2 := hf 2 _ rfl
    have g3 : DataW.trod enc Tryz.prog W base sp held k 3 (([c0, c1, c2, c3, c4, c5, c6].drop 3).take (Tryz.prog.cellsOf 3)) = some y3 := hf 3 _ rfl
    have g4 : DataW.trod enc Tryz.prog W base sp held k 3 (([c0, c1, c2, c3, c4, c5, c6].drop 4).take (Tryz.prog.cellsOf 3)) = some y4 := hf 4 _ rfl
    have g5 : DataW.trod enc Tryz.prog W base sp held k 3 (([c0, c1, c2, c3, c4, c5, c6].drop 5).take (Tryz.prog.cellsOf 3)) = some y5 := hf 5 _ rfl
    have g6 : DataW.trod enc Tryz.prog W base sp held k 3 (([c0, c1, c2, c3, c4, c5, c6].drop 6).take (Tryz.prog.cellsOf 3)) = some y6 := hf 6 _ rfl
    rw [k3] at g0 g1 g2 g3 g4 g5 g6
    simp only [List.drop_zero, List.drop_succ_cons, List.take_succ_cons, List.take_zero] at g0 g1 g2 g3 g4 g5 g6
    obtain ⟨a0, rfl, w0⟩ := open_in64 _ _ _ g0
    obtain ⟨a1, rfl, w1⟩ := open_in64 _ _ _ g1
    obtain ⟨a2, rfl, w2⟩ := open_in64 _ _ _ g2
    obtain ⟨a3, rfl, w3⟩ := open_in64 _ _ _ g3
    obtain ⟨a4, rfl, w4⟩ := open_in64 _ _ _ g4
    obtain ⟨a5, rfl, w5⟩ := open_in64 _ _ _ g5
    obtain ⟨a6, rfl, w6⟩ := open_in64 _ _ _ g6
    exact ⟨⟨a0, a1, a2, a3, a4, a5, a6⟩, k71_mk W ⟨a0, a1, a2, a3, a4, a5, a6⟩, w0, w1, w2, w3, w4, w5, w6⟩
theorem open_ints {fuel : Nat} {c : Value} {y : DataW H × List MemPlace} (h : DataW.trod enc Tryz.prog W base sp held fuel 23 [c] = some y) : ∃ (A : Option Addr) (n : Nat) (l : List Int), c = .slice A l.length n ∧ l.length ≤ n ∧ Kd.C (Kd.int .i64) W A l.length l := by
  obtain ⟨A, n, l, e, h1, _, h2, _⟩ := open_kd (Kd.int .i64) (0 : Int) _ Tryz.underlying23 (by kernel_rfl) open_int_elem h
  simp only [List.cons.injEq, and_true] at e
  exact ⟨A, n, l, e, h1, h2⟩
theorem open_row (n : Nat) (cs : List Value) (y : DataW H × List MemPlace) (h : DataW.trod enc Tryz.prog W base sp held n 23 cs = some y) : ∃ x : List Int, (Kd.slice 3 (Kd.int .i64)).K W x cs ∧ True := by
  obtain ⟨A, m, l, e, h1, _, h2, _⟩ := open_kd (Kd.int .i64) (0 : Int) _ Tryz.underlying23 (by kernel_rfl) open_int_elem h
  exact ⟨l, ⟨A, m, e, h1, h2⟩, trivial⟩
set_option maxRecDepth 100000 in
theorem open_inst (n : Nat) (cs : List Value) (y : DataW H × List MemPlace) (h : DataW.trod enc Tryz.prog W base sp held n 25 cs = some y) :
    ∃ (x : Cn.In) (A6 A7 : Option Addr) (c6 c7 : Nat), cs = [.string x.nm, .int .i64 x.kind, .int .i64 x.metric, .int .i64 x.scale, .int .i64 x.cap, .int .i64 x.fleet, .slice A6 x.nodes.length c6, .slice A7 x.mx.length c7] ∧ x.mx.length ≤ c7 ∧ Kd.C k71 W A6 x.nodes.length x.nodes ∧ Kd.C (Kd.int .i64) W A7 x.mx.length x.mx ∧ ∀ d ∈ x.nodes, NodeOk d := by
  obtain ⟨xs, k, _, rfl, hl, hlen, hf⟩ := DataW.trod_struct Tryz.underlying25 h
  have hl8 : cs.length = 8 := hl.trans (by kernel_rfl)
  match xs, hlen, cs, hl8 with
  | [y0, y1, y2, y3, y4, y5, y6, y7], _, [c0, c1, c2, c3, c4, c5, c6, c7], _ =>
    have k3 : Tryz.prog.cellsOf 3 = 1 := by kernel_rfl
    have k9 : Tryz.prog.cellsOf 9 = 1 := by kernel_rfl
    have k22 : Tryz.prog.cellsOf 22 = 1 := by kernel_rfl
    have k23 : Tryz.prog.cellsOf 23 = 1 := by kernel_rfl
    have g0 : DataW.trod enc Tryz.prog W base sp held k 9 (([c0, c1, c2, c3, c4, c5, c6, c7].drop 0).take (Tryz.prog.cellsOf 9)) = some y0 := hf 0 _ rfl
    have g1 : DataW.trod enc Tryz.prog W base sp held k 3 (([c0, c1, c2, c3, c4, c5, c6, c7].drop 1).take (Tryz.prog.cellsOf 3)) = some y1 := hf 1 _ rfl
    have g2 : DataW.trod enc Tryz.prog W base sp held k 3 (([c0, c1, c2, c3, c4, c5, c6, c7].drop 2).take (Tryz.prog.cellsOf 3)) = some y2 := hf 2 _ rfl
    have g3 : DataW.trod enc Tryz.prog W base sp held k 3 (([c0, c1, c2, c3, c4, c5, c6, c7].drop 3).take (Tryz.prog.cellsOf 3)) = some y3 := hf 3 _ rfl
    have g4 : DataW.trod enc Tryz.prog W base sp held k 3 (([c0, c1, c2, c3, c4, c5, c6, c7].drop 4).take (Tryz.prog.cellsOf 3)) = some y4 := hf 4 _ rfl
    have g5 : DataW.trod enc Tryz.prog W base sp held k 3 (([c0, c1, c2, c3, c4, c5, c6, c7].drop 5).take (Tryz.prog.cellsOf 3)) = some y5 := hf 5 _ rfl
    have g6 : DataW.trod enc Tryz.prog W base sp held k 22 (([c0, c1, c2, c3, c4, c5, c6, c7].drop 6).take (Tryz.prog.cellsOf 22)) = some y6 := hf 6 _ rfl
    have g7 : DataW.trod enc Tryz.prog W base sp held k 23 (([c0, c1, c2, c3, c4, c5, c6, c7].drop 7).take (Tryz.prog.cellsOf 23)) = some y7 := hf 7 _ rfl
    rw [k9] at g0
    rw [k3] at g1 g2 g3 g4 g5
    rw [k22] at g6
    rw [k23] at g7
    simp only [List.drop_zero, List.drop_succ_cons, List.take_succ_cons, List.take_zero] at g0 g1 g2 g3 g4 g5 g6 g7
    obtain ⟨a0, e0, _, _⟩ := DataW.trod_string (P := Tryz.prog) Tryz.underlying9 g0
    simp only [List.cons.injEq, and_true] at e0
    subst e0
    obtain ⟨a1, rfl, _⟩ := open_in64 _ _ _ g1
    obtain ⟨a2, rfl, _⟩ := open_in64 _ _ _ g2
    obtain ⟨a3, rfl, _⟩ := open_in64 _ _ _ g3
    obtain ⟨a4, rfl, _⟩ := open_in64 _ _ _ g4
    obtain ⟨a5, rfl, _⟩ := open_in64 _ _ _ g5
    obtain ⟨A6, n6, l6, e6, _, _, hC6, hQ⟩ := open_kd k71 z71 _ Tryz.underlying22 (by kernel_rfl) open_node g6
    simp only [List.cons.injEq, and_true] at e6
    subst e6
    obtain ⟨A7, n7, l7, rfl, h7, hC7⟩ := open_ints g7
    exact ⟨⟨a0, a1, a2, a3, a4, a5, l6, l7⟩, A6, A7, n6, n7, rfl, h7, hC6, hC7, hQ⟩
set_option maxRecDepth 100000 in
theorem open_plan (n : Nat) (cs : List Value) (y : DataW H × List MemPlace) (h : DataW.trod enc Tryz.prog W base sp held n 28 cs = some y) :
    ∃ (rs : List (List Int)) (A : Option Addr) (c : Nat), cs = [.slice A rs.length c] ∧ rs.length ≤ c ∧ Kd.C (Kd.slice 3 (Kd.int .i64)) W A rs.length rs := by
  obtain ⟨xs, k, _, rfl, hl, hlen, hf⟩ := DataW.trod_struct Tryz.underlying28 h
  have hl1 : cs.length = 1 := hl.trans (by kernel_rfl)
  match xs, hlen, cs, hl1 with
  | [y0], _, [c0], _ =>
    have k26 : Tryz.prog.cellsOf 26 = 1 := by kernel_rfl
    have g0 : DataW.trod enc Tryz.prog W base sp held k 26 (([c0].drop 0).take (Tryz.prog.cellsOf 26)) = some y0 := hf 0 _ rfl
    rw [k26] at g0
    simp only [List.drop_zero, List.take_succ_cons, List.take_zero] at g0
    obtain ⟨A, m, l, e, h1, _, h2, _⟩ := open_kd (Kd.slice 3 (Kd.int .i64)) ([] : List Int) _ Tryz.underlying26 (by kernel_rfl) open_row g0
    exact ⟨l, A, m, e, h1, h2⟩
end
theorem gTab : Tryz.prog.globalNamed "entrepot/pack.sums" = some 0 := by kernel_rfl
theorem gTabType : (Tryz.prog.globals[0]?).map (·.type) = some 245 := by kernel_rfl
theorem cells245 : Tryz.prog.cellsOf 245 = 16 := by kernel_rfl
theorem cells129 : Tryz.prog.cellsOf 129 = 1 := by kernel_rfl
/-- A world for the witness: the settled one, the table holding what its initialiser lays. -/
noncomputable def laidWorld (os : Os) : World :=
  { World.holding Tryz.prog os ⟨#[], #[], []⟩ with heap := (World.holding Tryz.prog os ⟨#[], #[], []⟩).heap.modify 0 fun
      | .cells _ t frozen => .cells #[.int .u32 0, .int .u32 498536548, .int .u32 997073096, .int .u32 651767980, .int .u32 1994146192, .int .u32 1802195444, .int .u32 1303535960, .int .u32 1342533948, .int .u32 3988292384, .int .u32 4027552580, .int .u32 3604390888, .int .u32 3412177804, .int .u32 2607071920, .int .u32 2262029012, .int .u32 2685067896, .int .u32 3183342108] t frozen
      | o => o }
end Go.Proofs.YtofklpphalalhaaGreatDoor
end
section
namespace Go.Proofs.YtofklpphalalhaaGreatDoor
set_option linter.unusedVariables false
set_option linter.unusedSimpArgs false
open Go.RowKit Go.Proofs.YtofklpphalalhaaGreatDoor.PAll Go.Proofs.YtofklpphalalhaaGreatDoorW.PrintWords Go.Proofs.YtofklpphalalhaaGreatDoorW.PrintLast Go.Proofs.YtofklpphalalhaaGreatDoorW.PrintMore
/-- The boxes of the answers. -/
def PW (w : World) : World := (w.alloc (.cells #[.slice none 0 0] 28)).alloc (.cells #[.int .i64 0, .int .i64 0] 38)
theorem PW.size (w : World) : (PW w).heap.size = w.heap.size + 2 := by unfold PW; simp
theorem PW.below (w : World) : Below w.heap.size w (PW w) := below_two w _ _
theorem PW.b0 (w : World) : (PW w).heap[w.heap.size]? = some (.cells #[.slice none 0 0] 28) := (two_blocks w _ _).1
theorem PW.b1 (w : World) : (PW w).heap[w.heap.size + 1]? = some (.cells #[.int .i64 0, .int .i64 0] 38) := (two_blocks w _ _).2
abbrev kRow : Kd (List Int) := Kd.slice 3 (Kd.int .i64)
theorem infoRow : (Tryz.prog.info? 23).map (fun i => (i.zero, i.size, i.bytes)) = some (some (.slice none 0 0), 1, 24) := by kernel_rfl
/-- What GetPlan has: the reader, and the plan's block, with rows of its own. -/
def PT (W0 W : World) (g xb : Nat) (t : ByteArray) (st : Rr.St) (rs : List (List Int)) (v : Value) : Prop :=
  RI W0 W g t st ∧ W.heap[xb]? = some (.cells #[v] 28) ∧ W0.heap.size ≤ xb ∧ Kd.R kRow 23 W W0.heap.size (fun _ => True) v rs
section
variable {W0 W W' : World} {g xb : Nat} {t : ByteArray} {st st' : Rr.St} {rs : List (List Int)} {v : Value}
theorem PT.ri (h : PT W0 W g xb t st rs v) : RI W0 W g t st := h.1
theorem PT.xbl (h : PT W0 W g xb t st rs v) : W.heap[xb]? = some (.cells #[v] 28) := h.2.1
theorem PT.rows (h : PT W0 W g xb t st rs v) : Kd.R kRow 23 W W0.heap.size (fun _ => True) v rs := h.2.2.2
theorem ri_ne (h : RI W0 W g t st) (hx : W.heap[xb]? = some (.cells #[v] 28)) : g ≠ xb := fun e => by
  have h1 := h.blk
  rw [e, hx] at h1; simp at h1
theorem PT.ne (h : PT W0 W g xb t st rs v) : g ≠ xb := ri_ne h.ri h.xbl
theorem PT.step (h : PT W0 W g xb t st rs v) (hr : RI W0 W' g t st') (hk : KeepBut W W' g none) : PT W0 W' g xb t st' rs v :=
  ⟨hr, (hk.2 xb (Array.getElem?_eq_some_iff.1 h.xbl).1 (fun e => h.ne e.symm) (by simp)).trans h.xbl, h.2.2.1, Kd.R_mono (Kd.R_keep (Kd.R_types h.rows h.ri.blk (by decide)) hk (fun _ hk => hk.2)) (fun _ _ => trivial)⟩
theorem PT.cell (h : PT W0 W g xb t st rs v) : W.cell? ⟨xb, 0, none⟩ = some v := by rw [Lib.cell_of_heap h.xbl]; rfl
theorem PT.put (hr : RI W0 W g t st) (hx : W.heap[xb]? = some (.cells #[v] 28)) (h0 : W0.heap.size ≤ xb) {v' : Value} {rs' : List (List Int)} (hR : Kd.R kRow 23 W W0.heap.size (fun _ => True) v' rs') : PT W0 (W.setCell ⟨xb, 0, none⟩ v') g xb t st rs' v' :=
  ⟨hr.setB (ri_ne hr hx) h0 v', blk_put hx 0 v' rfl, h0, Kd.R_set hR hx (by decide) 0 v'⟩
end
/-- A list that has been read, as an element. -/
theorem row_M {w : World} {base b : Nat} {v : Value} {l : List Int} (h : w.ownsRow b 3 1 v l.length (l.flatMap ic)) (hb : base ≤ b) : kRow.M w base (fun k => b ≤ k) l [v] :=
  ⟨v, rfl, Kd.R_lower (Kd.R_mono (Kd.R_bound (R_of_rows (K := Kd.int .i64) (enc := ic) kint_M (fun _ => rfl) (by decide) h)) (fun _ hk => hk.2.1)) hb⟩
set_option maxRecDepth 100000 in
set_option maxHeartbeats 16000000 in
theorem getPlan_walk (s : ByteArray) (hs : s.size ≤ 1000000000) (w : World) (HT : Tab w) : Calls Tryz.prog 36 #[.string s] w fun e w' => ∃ v, e = .returned (.tuple #[.agg #[v], .agg #[.int .i64 (Rr.getPlan s).2.1, .int .i64 (Rr.getPlan s).2.2]]) ∧ Kd.R kRow 23 w' w.heap.size (fun _ => True) v (Rr.getPlan s).1 ∧ Below w.heap.size w w' := by
  have hop := opened_walk s (by omega) 2 (PW w) (HT.below (PW.below w))
  have hots : (Rr.opT s).size ≤ 1000000000 := by
    have h : (Pk.opn s.data.toList).1.length ≤ s.data.toList.length := by
      unfold Pk.opn
      split
      · simp
      · split
        · simp
        · simp only [List.length_take]; omega
    unfold Rr.opT
    rw [Evs.S_size]
    rw [Evs.size_len] at h
    omega
  have hok0 := Rr.ok_opened s 2
  obtain ⟨F, hF⟩ : ∃ F, Rr.getPlan s = F := ⟨_, rfl⟩
  rw [hF]
  unfold Rr.getPlan Rr.planE Rr.planR at hF
  obtain ⟨t, ht⟩ : ∃ t, Rr.opT s = t := ⟨_, rfl⟩
  obtain ⟨st0, hst0⟩ : ∃ st, Rr.opened s 2 = st := ⟨_, rfl⟩
  rw [ht, hst0] at hop hok0
  rw [ht, hst0] at hF
  rw [ht] at hots
  have HOP := Aside0.mk hop
  have HF := Aside0.mk hF
  have HOK := Aside0.mk hok0
  have HPS := Aside0.mk (PW.size w)
  clear hop hF hok0 ht hst0
  go_enter Tryz.func36, Tryz.ntmps36
  go_wp2_with fail
  refine HOP.out.mono ?_
  rintro e W1 ⟨g, rfl, h1⟩
  have HG0 := Aside0.mk (show PT (PW w) (W1.alloc (.cells #[.slice none 0 0] 28)) g W1.heap.size t st0 [] (.slice none 0 0) from ⟨h1.below (below_one _ _), Array.getElem?_push_size, h1.bl.size, Kd.R_nil _ _ _ _ _⟩)
  have HC := Aside0.mk (count_walk HG0.out.ri (by omega) HOK.out)
  have hcl := Rr.count_le HOK.out
  have hokc := Rr.ok_count HOK.out
  clear h1 HOP
  obtain ⟨cn, hcn⟩ : ∃ r, Rr.count t st0 = r := ⟨_, rfl⟩
  rw [hcn] at HC hcl hokc
  have HCN := Aside0.mk hcn
  clear hcn
  go_wp2_with fail
  refine HC.out.mono ?_
  rintro e W5 ⟨rfl, h5, k5⟩
  have HG5 := Aside0.mk (HG0.out.step h5 k5)
  clear h5 k5 HC HG0
  go_upto_block 0 with (fail)
  obtain ⟨R, hR⟩ : ∃ R, Rr.routesN t cn.1.toNat [] cn.2 = R := ⟨_, rfl⟩
  have HR := Aside0.mk hR
  have HOKC := Aside0.mk hokc
  go_cut [] (fun wc => ∃ v6, PT (PW w) wc g W1.heap.size t R.2 R.1 v6)
  case first =>
    clear hR hokc
    go_wp2_with fail
    go_loopw [11] (fun v11 wr => ∃ (k : Nat) (l : List (List Int)) (st' : Rr.St) (v6 : Value), k ≤ cn.1.toNat ∧ v11 = .int .i64 k ∧ l.length = k ∧ PT (PW w) wr g W1.heap.size t st' l v6 ∧ Rr.Ok t st' ∧ Rr.routesN t (cn.1.toNat - k) l st' = R) (fun v _ => cn.1.toNat - (intOf v).toNat)
    case atStart => exact ⟨0, [], cn.2, _, Nat.zero_le _, rfl, rfl, HG5.out, HOKC.out, HR.out⟩
    case round =>
      obtain ⟨k, l, st', v6, hk, rfl, hlk, hgs, hok, hN⟩ := hrel
      have HGS := Aside0.mk hgs
      have HN := Aside0.mk hN
      have HO := Aside0.mk hok
      clear hgs hN HG5 HR hok HOKC
      by_cases hlt : (k : Int) < cn.1
      · have HL := Aside0.mk (rlist_walk HGS.out.ri (by omega) HO.out)
        have hokl := Rr.ok_list HO.out
        have hsub : cn.1.toNat - k = (cn.1.toNat - (k + 1)) + 1 := by omega
        have hN := HN.out
        rw [hsub] at hN
        unfold Rr.routesN at hN
        obtain ⟨q, hq⟩ : ∃ q, Rr.list t st' = q := ⟨_, rfl⟩
        rw [hq] at HL hN hokl
        have HN2 := Aside0.mk hN
        have HOL := Aside0.mk hokl
        clear hN hsub HN hq hokl
        go_wp2_with fail
        refine HL.out.mono ?_
        rintro e W6 ⟨vl, rfl, hol, h6, k6⟩
        have HG6 := Aside0.mk (HGS.out.step h6 k6)
        have HFN := Aside0.mk h6.fine
        have HOW := Aside0.mk hol
        have HWS : Aside0 ((PW w).heap.size ≤ wr.heap.size) := ⟨HGS.out.ri.bl.size⟩
        have HWV : Aside0 (∀ k, v6.ownBlock = some k → k < wr.heap.size) := ⟨by obtain ⟨inner, ho⟩ := Kd.R_own HGS.out.rows; exact fun k hk => (ho.lt k hk).2⟩
        clear h6 k6 hol HL HGS HO
        by_cases h0 : q.2.c = 0
        · have hb : (q.2.c == 0) = true := by simpa using h0
          rw [hb] at HFN
          clear hb
          go_wp2_with fail
          refine HFN.out.mono ?_
          rintro e W7 ⟨rfl, h7, k7⟩
          have HO7 : Aside0 (W7.ownsRow wr.heap.size 3 1 vl q.1.length (q.1.flatMap ic)) := ⟨k7.own HOW.out (own3_ne HOW.out HG6.out.ri.blk (by decide)) (by cases hb : vl.ownBlock <;> simp)⟩
          have HG7 := Aside0.mk (HG6.out.step h7 k7)
          obtain ⟨Al, cl, rfl⟩ := own_slice HO7.out
          have hN := HN2.out
          rw [if_pos h0] at hN
          have HNE := Aside0.mk hN
          have c6 := HG7.out.cell
          clear h7 k7 HFN HG6 hN HN2 HOW
          go_wp2_with (at_builtin; refine Kd.R_append kRow (w0 := PW w) (PW w).heap.size rfl _ _ 26 23 (.slice none 0 0) 24 rfl Tryz.underlying26 infoRow rfl (by decide) (by decide) v6 l q.1 [.slice Al q.1.length cl] (fun _ => True) (fun k => wr.heap.size ≤ k) rfl rfl (row_M HO7.out HWS.out) (fun k hk => ⟨trivial, fun e => by have := HWV.out k e.symm; omega⟩) (fun _ _ => trivial) HG7.out.rows HG7.out.ri.bl HG7.out.ri.bl.size (by omega) ?_)
          intro v9 W9 hR9 hb9 hg9 hat9
          have hx9 : W9.heap[W1.heap.size]? = some (.cells #[v6] 28) := (hg9.block _ (Array.getElem?_eq_some_iff.1 HG7.out.xbl).1 (Kd.R_ne HG7.out.rows HG7.out.xbl (by decide))).trans HG7.out.xbl
          have hi9 : RI (PW w) W9 g t q.2 := ⟨HG7.out.ri.is.grown hg9 (Kd.R_ne HG7.out.rows HG7.out.ri.blk (by decide)), hb9⟩
          have hln : (l ++ [q.1]).length = k + 1 := by rw [List.length_append, hlk]; rfl
          obtain ⟨A9, c9, e9⟩ := Kd.R_slice hR9
          rw [hln] at e9
          subst e9
          have hc9 : W9.cell? ⟨W1.heap.size, 0, none⟩ = some v6 := by rw [Lib.cell_of_heap hx9]; rfl
          have hf9 := Lib.frozen_of_heap hx9 0
          have HG9 := Aside0.mk (PT.put hi9 hx9 HG7.out.2.2.1 hR9)
          have HLN := Aside0.mk hln
          clear hx9 hi9 hR9 hb9 hg9 hat9 hln HG7 HO7 HWV c6
          go_wp2_with fail
          go_roundw
          case rel => exact ⟨k + 1, l ++ [q.1], q.2, _, by omega, by go_num, HLN.out, HG9.out, HOL.out, HNE.out⟩
          case measure => simp [intOf]; omega
        · have hb : (q.2.c == 0) = false := by simpa using h0
          rw [hb] at HFN
          have hN := HN2.out
          rw [if_neg h0] at hN
          clear hb HN2
          go_wp2_with fail
          refine HFN.out.mono ?_
          rintro e W8 ⟨rfl, h8, k8⟩
          have HG8 := Aside0.mk (HG6.out.step h8 k8)
          have HNE := Aside0.mk hN
          clear h8 k8 HFN HG6 hN HOW HWV
          go_wp2_with fail
          go_meet
          case rel => exact ⟨_, by rw [← HNE.out]; exact HG8.out⟩
      · have hN := HN.out
        rw [show cn.1.toNat - k = 0 by omega] at hN
        have HNE := Aside0.mk hN
        clear hN HN
        go_wp2_with fail
        go_meet
        case rel => exact ⟨_, by rw [← HNE.out]; exact HGS.out⟩
  case rest =>
    obtain ⟨v6, hgs⟩ := hcut
    have HGR := Aside0.mk hgs
    have hokr := Rr.ok_routesN cn.1.toNat [] cn.2 HOKC.out
    rw [hR] at hokr
    have HE := Aside0.mk (end_walk HGR.out.ri (by omega) hokr)
    have hFe := HF.out
    rw [HCN.out, hR] at hFe
    obtain ⟨fe, hfe⟩ : ∃ f, Rr.fin t R.2 = f := ⟨_, rfl⟩
    rw [hfe] at hFe HE
    have HFE := Aside0.mk hFe
    clear hgs hokr hFe hfe hR HR HG5 HF HCN HOKC hokc
    go_wp2_with fail
    refine HE.out.mono ?_
    rintro e W12 ⟨rfl, h12, k12⟩
    have HG12 := Aside0.mk (HGR.out.step h12 k12)
    clear h12 k12 HE HGR
    have HZ0 : Aside0 (W12.heap[w.heap.size]? = some (.cells #[.slice none 0 0] 28)) := ⟨(HG12.out.ri.bl.block w.heap.size (by rw [HPS.out]; omega)).trans (PW.b0 w)⟩
    have HZ1 : Aside0 (W12.heap[w.heap.size + 1]? = some (.cells #[.int .i64 0, .int .i64 0] 38)) := ⟨(HG12.out.ri.bl.block (w.heap.size + 1) (by rw [HPS.out]; omega)).trans (PW.b1 w)⟩
    have HBW : Aside0 (Below w.heap.size w W12) := ⟨(PW.below w).trans (HG12.out.ri.bl.mono (by rw [HPS.out]; omega))⟩
    have HGX : Aside0 (g < W12.heap.size ∧ g ≠ w.heap.size ∧ g ≠ w.heap.size + 1) := ⟨by
      have h1 := (Array.getElem?_eq_some_iff.1 HG12.out.ri.blk).1
      have h2 := HG12.out.ri.is.2
      rw [HPS.out] at h2
      exact ⟨h1, by omega, by omega⟩⟩
    obtain ⟨c0, c1, c2, c3⟩ := HG12.out.ri.cells
    have cx := HG12.out.cell
    by_cases hf : fe.c = 0
    · have hb : (fe.c == 0) = true := by simpa using hf
      have hFe := HFE.out
      rw [if_pos hf] at hFe
      replace HFE := Aside0.mk hFe
      obtain ⟨A6, c6, e6⟩ := Kd.R_slice HG12.out.rows
      subst e6
      clear hFe hf
      go_wp2_with fail
      refine start_ (n := 7) (S := fun w' => w'.cell? ⟨W1.heap.size, 0, none⟩ = some (.slice A6 R.1.length c6) ∧ w'.cell? ⟨g, 2, none⟩ = some (.int .i64 fe.a) ∧ w'.cell? ⟨g, 3, none⟩ = some (.int .i64 fe.c)) (ds := [6]) #[false, false, false, false, false, false, false] (by kernel_rfl) rfl rfl ⟨cx, c2, c3⟩ (fun hHeld => ?_)
      refine pure_ (i := 1) (N := some 34) (v := ?_) (a' := ?_) #[false, true, false, false, false, false, false] rfl rfl (by kernel_rfl) (fun _ _ _ h => h) (Or.inl ⟨by rfl, ?_⟩) ?_ ?_
      rotate_left
      · intro w'
        go_simp
        with_reducible rfl
      rotate_left
      · simp only [Act.put, List.setIfInBounds_toArray, List.set_cons_zero, List.set_cons_succ, i64_w, i32_w]
        rfl
      refine pure_ (i := 2) (N := some 35) (v := ?_) (a' := ?_) #[false, true, true, false, false, false, false] rfl rfl (by kernel_rfl) (fun _ _ _ h => h) (Or.inl ⟨by rfl, ?_⟩) ?_ ?_
      rotate_left
      · intro w'
        go_simp
        with_reducible rfl
      rotate_left
      · simp only [Act.put, List.setIfInBounds_toArray, List.set_cons_zero, List.set_cons_succ, i64_w, i32_w]
        rfl
      refine pure_ (i := 3) (N := some 36) (v := ?_) (a' := ?_) #[false, true, true, true, false, false, false] rfl rfl (by kernel_rfl) (fun _ _ _ h => h) (Or.inl ⟨by rfl, ?_⟩) ?_ ?_
      rotate_left
      · intro w'
        go_simp
        with_reducible rfl
      rotate_left
      · simp only [Act.put, List.setIfInBounds_toArray, List.set_cons_zero, List.set_cons_succ, i64_w, i32_w]
        rfl
      refine take_ (i := 0) (N := some 33) (v := ?_) (a' := ?_) #[true, true, true, true, false, false, false] rfl rfl (by kernel_rfl) (fun _ _ _ h => h) (Or.inl ⟨by rfl, ?_⟩) hHeld ?_ ?_
      rotate_left
      · rintro w' ⟨s0, s1, s2⟩
        go_simp
        with_reducible rfl
      rotate_left
      · simp only [Act.put, List.setIfInBounds_toArray, List.set_cons_zero, List.set_cons_succ, i64_w, i32_w]
        rfl
      refine take_ (i := 4) (N := some 37) (v := ?_) (a' := ?_) #[true, true, true, true, true, false, false] rfl rfl (by kernel_rfl) (fun _ _ _ h => h) (Or.inl ⟨by rfl, ?_⟩) hHeld ?_ ?_
      rotate_left
      · rintro w' ⟨s0, s1, s2⟩
        go_simp
        with_reducible rfl
      rotate_left
      · simp only [Act.put, List.setIfInBounds_toArray, List.set_cons_zero, List.set_cons_succ, i64_w, i32_w]
        rfl
      refine one_ (i := 5) (N := none) #[true, true, true, true, true, true, false] rfl rfl (by kernel_rfl) (by decide) (fun K hK => ?_)
      refine step_store_all (by rfl) rfl 28 (.tmp 2) (.tmp 33) rfl HZ0.out (by rfl) _ [.slice A6 R.1.length c6] (by rfl) rfl (by kernel_rfl) rfl (by intro q hq; simp only [List.mem_cons, List.not_mem_nil, or_false] at hq; rcases hq with rfl <;> rfl) ?_
      intro w1 hb1 hg1
      have kx : w1.cell? ⟨W1.heap.size, 0, none⟩ = some (.slice A6 R.1.length c6) := (grown_cell hg1 ⟨(Array.getElem?_eq_some_iff.1 HG12.out.xbl).1, by have h := HG12.out.2.2.1; rw [HPS.out] at h; exact fun (e : W1.heap.size = w.heap.size) => by omega⟩).trans cx
      have k2 : w1.cell? ⟨g, 2, none⟩ = some (.int .i64 fe.a) := (grown_cell hg1 ⟨HGX.out.1, HGX.out.2.1⟩).trans c2
      have k3 : w1.cell? ⟨g, 3, none⟩ = some (.int .i64 fe.c) := (grown_cell hg1 ⟨HGX.out.1, HGX.out.2.1⟩).trans c3
      have HZ1' : w1.heap[w.heap.size + 1]? = some (.cells #[.int .i64 0, .int .i64 0] 38) := (hg1.block (w.heap.size + 1) (Array.getElem?_eq_some_iff.1 HZ1.out).1 (fun e => by injection e; omega)).trans HZ1.out
      have HG1 := Aside0.mk hg1
      have HB1' := Aside0.mk hb1
      clear hg1 hb1
      refine hK.out _ _ ⟨kx, k2, k3⟩ (fun hHeld => ?_)
      clear hK K
      refine last_ (i := 6) (N := none) #[true, true, true, true, true, true, true] rfl rfl (by kernel_rfl) (by decide) (fun K hK => ?_)
      refine step_store_all (by rfl) rfl 38 (.tmp 3) (.tmp 37) rfl HZ1' (by rfl) _ [.int .i64 fe.a, .int .i64 fe.c] (by rfl) rfl (by kernel_rfl) rfl (by intro q hq; simp only [List.mem_cons, List.not_mem_nil, or_false] at hq; rcases hq with rfl | rfl <;> rfl) ?_
      intro w2 hb2 hg2
      have HB1 := Aside0.mk ((hg2.block w.heap.size (Array.getElem?_eq_some_iff.1 HB1'.out).1 (fun e => by injection e; omega)).trans HB1'.out)
      refine hK.out _ _ ?_
      clear hK K
      refine done_ (by kernel_rfl) ?_
      go_wp2_with fail
      refine bodyPost_ret (results_cc rfl _ _ w.heap.size (w.heap.size + 1) 28 38 #[.slice A6 R.1.length c6] #[.int .i64 fe.a, .int .i64 fe.c] (0, 0) (0, 0) _ _ rfl HB1.out Tryz.underlying28 rfl (by kernel_rfl) rfl hb2 Tryz.underlying38 rfl (by kernel_rfl)) rfl ?_
      rw [← HFE.out]
      have s : ∀ k, (True ∧ k ≠ w.heap.size) → some k ≠ some w.heap.size := fun k hk e => hk.2 (by injection e)
      have s1 : ∀ k, (True ∧ k ≠ w.heap.size + 1) → some k ≠ some (w.heap.size + 1) := fun k hk e => hk.2 (by injection e)
      have hR1 := Kd.R_mono (Kd.R_grown (Kd.R_types (Kd.R_below HG12.out.rows ((Below.refl _ _).drew)) HZ0.out (by decide)) HG1.out s) (fun _ _ => trivial)
      have hR2 := Kd.R_mono (Kd.R_grown (Kd.R_types hR1 ((HG1.out.block _ (Array.getElem?_eq_some_iff.1 HZ1.out).1 (fun e => by injection e; omega)).trans HZ1.out) (by decide)) hg2 s1) (fun _ _ => trivial)
      exact ⟨_, rfl, Kd.R_lower hR2 (by rw [HPS.out]; omega), ((HBW.out.drew).grown HG1.out (by have := HBW.out.size; simpa using this) (fun k hk => by injection hk; omega)).grown hg2 (Nat.le_trans HBW.out.size (by have := HG1.out.size; simpa using this)) (fun k hk => by injection hk; omega)⟩
    · have hb : (fe.c == 0) = false := by simpa using hf
      have hFe := HFE.out
      rw [if_neg hf] at hFe
      replace HFE := Aside0.mk hFe
      clear hFe hf
      go_wp2_with fail
      refine start_ (n := 7) (S := fun w' => w'.cell? ⟨g, 2, none⟩ = some (.int .i64 fe.a) ∧ w'.cell? ⟨g, 3, none⟩ = some (.int .i64 fe.c)) (ds := [6]) #[false, false, false, false, false, false, false] (by kernel_rfl) rfl rfl ⟨c2, c3⟩ (fun hHeld => ?_)
      refine pure_ (i := 0) (N := some 28) (v := ?_) (a' := ?_) #[true, false, false, false, false, false, false] rfl rfl (by kernel_rfl) (fun _ _ _ h => h) (Or.inl ⟨by rfl, ?_⟩) ?_ ?_
      rotate_left
      · intro w'
        go_simp
        with_reducible rfl
      rotate_left
      · simp only [Act.put, List.setIfInBounds_toArray, List.set_cons_zero, List.set_cons_succ, i64_w, i32_w]
        rfl
      refine pure_ (i := 1) (N := some 29) (v := ?_) (a' := ?_) #[true, true, false, false, false, false, false] rfl rfl (by kernel_rfl) (fun _ _ _ h => h) (Or.inl ⟨by rfl, ?_⟩) ?_ ?_
      rotate_left
      · intro w'
        go_simp
        with_reducible rfl
      rotate_left
      · simp only [Act.put, List.setIfInBounds_toArray, List.set_cons_zero, List.set_cons_succ, i64_w, i32_w]
        rfl
      refine pure_ (i := 2) (N := some 30) (v := ?_) (a' := ?_) #[true, true, true, false, false, false, false] rfl rfl (by kernel_rfl) (fun _ _ _ h => h) (Or.inl ⟨by rfl, ?_⟩) ?_ ?_
      rotate_left
      · intro w'
        go_simp
        with_reducible rfl
      rotate_left
      · simp only [Act.put, List.setIfInBounds_toArray, List.set_cons_zero, List.set_cons_succ, i64_w, i32_w]
        rfl
      refine pure_ (i := 3) (N := some 31) (v := ?_) (a' := ?_) #[true, true, true, true, false, false, false] rfl rfl (by kernel_rfl) (fun _ _ _ h => h) (Or.inl ⟨by rfl, ?_⟩) ?_ ?_
      rotate_left
      · intro w'
        go_simp
        with_reducible rfl
      rotate_left
      · simp only [Act.put, List.setIfInBounds_toArray, List.set_cons_zero, List.set_cons_succ, i64_w, i32_w]
        rfl
      refine take_ (i := 4) (N := some 32) (v := ?_) (a' := ?_) #[true, true, true, true, true, false, false] rfl rfl (by kernel_rfl) (fun _ _ _ h => h) (Or.inl ⟨by rfl, ?_⟩) hHeld ?_ ?_
      rotate_left
      · rintro w' ⟨s0, s1⟩
        go_simp
        with_reducible rfl
      rotate_left
      · simp only [Act.put, List.setIfInBounds_toArray, List.set_cons_zero, List.set_cons_succ, i64_w, i32_w]
        rfl
      refine one_ (i := 5) (N := none) #[true, true, true, true, true, true, false] rfl rfl (by kernel_rfl) (by decide) (fun K hK => ?_)
      refine step_store_all (by rfl) rfl 28 (.tmp 2) (.tmp 28) rfl HZ0.out (by rfl) _ [.slice none 0 0] (by rfl) rfl (by kernel_rfl) rfl (by intro q hq; simp only [List.mem_cons, List.not_mem_nil, or_false] at hq; rcases hq with rfl <;> rfl) ?_
      intro w1 hb1 hg1
      have k2 : w1.cell? ⟨g, 2, none⟩ = some (.int .i64 fe.a) := (grown_cell hg1 ⟨HGX.out.1, HGX.out.2.1⟩).trans c2
      have k3 : w1.cell? ⟨g, 3, none⟩ = some (.int .i64 fe.c) := (grown_cell hg1 ⟨HGX.out.1, HGX.out.2.1⟩).trans c3
      have HZ1' : w1.heap[w.heap.size + 1]? = some (.cells #[.int .i64 0, .int .i64 0] 38) := (hg1.block (w.heap.size + 1) (Array.getElem?_eq_some_iff.1 HZ1.out).1 (fun e => by injection e; omega)).trans HZ1.out
      have HG1 := Aside0.mk hg1
      have HB1' := Aside0.mk hb1
      clear hg1 hb1
      refine hK.out _ _ ⟨k2, k3⟩ (fun hHeld => ?_)
      clear hK K
      refine last_ (i := 6) (N := none) #[true, true, true, true, true, true, true] rfl rfl (by kernel_rfl) (by decide) (fun K hK => ?_)
      refine step_store_all (by rfl) rfl 38 (.tmp 3) (.tmp 32) rfl HZ1' (by rfl) _ [.int .i64 fe.a, .int .i64 fe.c] (by rfl) rfl (by kernel_rfl) rfl (by intro q hq; simp only [List.mem_cons, List.not_mem_nil, or_false] at hq; rcases hq with rfl | rfl <;> rfl) ?_
      intro w2 hb2 hg2
      have HB1 := Aside0.mk ((hg2.block w.heap.size (Array.getElem?_eq_some_iff.1 HB1'.out).1 (fun e => by injection e; omega)).trans HB1'.out)
      refine hK.out _ _ ?_
      clear hK K
      refine done_ (by kernel_rfl) ?_
      go_wp2_with fail
      refine bodyPost_ret (results_cc rfl _ _ w.heap.size (w.heap.size + 1) 28 38 #[.slice none 0 0] #[.int .i64 fe.a, .int .i64 fe.c] (0, 0) (0, 0) _ _ rfl HB1.out Tryz.underlying28 rfl (by kernel_rfl) rfl hb2 Tryz.underlying38 rfl (by kernel_rfl)) rfl ?_
      rw [← HFE.out]
      exact ⟨_, rfl, Kd.R_nil _ _ _ _ _, ((HBW.out.drew).grown HG1.out (by have := HBW.out.size; simpa using this) (fun k hk => by injection hk; omega)).grown hg2 (Nat.le_trans HBW.out.size (by have := HG1.out.size; simpa using this)) (fun k hk => by injection hk; omega)⟩
end Go.Proofs.YtofklpphalalhaaGreatDoor
end
