/- Texts of this claim, joined: Bld, PAllx10. Each as it was, cut to what the claim uses. Conditions: each theorem's own. -/
import Derived.Test.YtofklpphalalhaaGreatDoorUzJ2
import Derived.Lib.OthersKept
import Derived.Lib.FrozenHead2
import Derived.Shelf.Strings.Builder1
import Derived.Laws.Externs
import Derived.RegionTactic
import Derived.Test.YtofklpphalalhaaGreatDoorUzJ1
import Derived.Test.YtofklpphalalhaaGreatDoorUzPAllx9
import Derived.Test.YtofklpphalalhaaGreatDoorUzJ3
section
namespace Go.Proofs.YtofklpphalalhaaGreatDoor
set_option linter.unusedVariables false
set_option linter.unusedSimpArgs false
open Go.RowKit Go.Proofs.YtofklpphalalhaaGreatDoor.PAll Go.Proofs.YtofklpphalalhaaGreatDoorW.PrintWords Go.Proofs.YtofklpphalalhaaGreatDoorW.PrintLast
/-- All blocks but b, and but the rows of bytes that are not frozen, stay. -/
def Kp (b : Nat) (w w' : World) : Prop := ∀ k o, w.heap[k]? = some o → k ≠ b → (∀ c, o ≠ .cells c 5 (0, 0)) → w'.heap[k]? = some o
theorem Kp.refl (b : Nat) (w : World) : Kp b w w := fun _ _ h _ _ => h
theorem Kp.trans {b : Nat} {a c d : World} (h : Kp b a c) (k : Kp b c d) : Kp b a d := fun i o hi hb ho => k i o (h i o hi hb ho) hb ho
theorem Kp.drew {b : Nat} {a w : World} (h : Kp b a w) : Kp b a w.drew := h
theorem Kp.alloc {b : Nat} {a w : World} (h : Kp b a w) (o : Obj) : Kp b a (w.alloc o) := by
  intro k x hk hb hx
  have h1 := h k x hk hb hx
  rw [Below.heap_alloc w o k (Array.getElem?_eq_some_iff.1 h1).1]; exact h1
theorem Kp.setCell {b : Nat} {a w : World} (h : Kp b a w) (p : Addr) (hp : p.block = b) (v : Value) : Kp b a (w.setCell p v) := by
  intro k x hk hb hx
  rw [Below.heap_setCell _ _ _ _ (fun e => hb (by rw [← hp, e]))]
  exact h k x hk hb hx
theorem Kp.grown {b : Nat} {a w w' : World} {row : Option Nat} (h : Kp b a w) (hg : w.grownBy w' row) (hrow : ∀ g, row = some g → ∃ c, w.heap[g]? = some (.cells c 5 (0, 0))) : Kp b a w' := by
  intro k x hk hb hx
  have h1 := h k x hk hb hx
  rw [hg.block k (Array.getElem?_eq_some_iff.1 h1).1 ?_]
  · exact h1
  · intro hk2
    obtain ⟨c, hc⟩ := hrow k hk2.symm
    rw [h1] at hc
    exact hx c (Option.some.inj hc)
theorem Kp.freeze {b : Nat} {a w : World} (h : Kp b a w) (p : Addr) (n : Nat) (hp : ∃ c, w.heap[p.block]? = some (.cells c 5 (0, 0))) : Kp b a (w.freeze p n) := by
  intro k x hk hb hx
  have h1 := h k x hk hb hx
  unfold World.freeze
  split
  · exact h1
  · simp only [Array.getElem?_modify]
    split
    · rename_i hpk
      obtain ⟨c, hc⟩ := hp
      rw [hpk, h1] at hc
      exact absurd (Option.some.inj hc) (hx c)
    · exact h1
theorem Kp.other {b : Nat} {w w' : World} (h : Kp b w w') : Lib.OthersKept 5 (some b) w w' := fun k o hk hb ho => h k o hk (fun e => hb (by rw [e])) (fun c => ho c _)
/-- Block b is of type T: a builder that holds the bytes bs (as cells), then the cells of rest. -/
def Bld (T : TypeId) (rest : List Value) (base b : Nat) (bs : List Value) (w : World) : Prop :=
  base ≤ b ∧ ∃ p v, (p = .pointer none ∨ p = .pointer (some ⟨b, 0, none⟩)) ∧ w.heap[b]? = some (.cells (p :: v :: rest).toArray T (0, 0)) ∧ w.ownsRow base 5 1 v bs.length bs
/-- A type whose values begin with a builder. -/
def Begins (T n : Nat) : Prop := T ≠ 5 ∧ liesAt Tryz.prog Tryz.prog.depth T ((n + 2) / Tryz.prog.cellsOf T) 0 122 1 = true
theorem begins124 : Begins 124 0 := ⟨by decide, by kernel_rfl⟩
theorem Bld.lt {T : TypeId} {rest : List Value} {base b : Nat} {bs : List Value} {w : World} (h : Bld T rest base b bs w) : b < w.heap.size := by
  obtain ⟨_, p, v, _, hb, _⟩ := h
  rcases Nat.lt_or_ge b w.heap.size with h' | h'
  · exact h'
  · rw [Array.getElem?_eq_none h'] at hb; cases hb
theorem setCell_heap {w : World} {b j : Nat} {cs : Array Value} {T : TypeId} {fz : Nat × Nat} (h : w.heap[b]? = some (.cells cs T fz)) (u : Value) : (w.setCell ⟨b, j, none⟩ u).heap[b]? = some (.cells (cs.setIfInBounds j u) T fz) := by
  simp [World.setCell, Array.getElem?_modify, h]
theorem own_set {w : World} {base e n b j : Nat} {v u : Value} {xs : List Value} {cs : Array Value} {T : TypeId} {fz : Nat × Nat} (h : w.ownsRow base e 1 v n xs) (hb : w.heap[b]? = some (.cells cs T fz)) (hT : T ≠ e) : (w.setCell ⟨b, j, none⟩ u).ownsRow base e 1 v n xs :=
  h.kept (row := some b) (grown_set w b j u) (.inr (Lib.ownBlock_ne h hb hT))
theorem info5 : (Tryz.prog.info? 5).map (fun i => (i.zero, i.size, i.bytes)) = some (some (.int .u8 0), 1, 1) := by kernel_rfl
theorem info122 : (Tryz.prog.info? 122).map (fun i => i.size) = some 2 := by kernel_rfl
set_option maxHeartbeats 1000000 in
set_option maxRecDepth 100000 in
theorem check_fresh {T : TypeId} {rest : List Value} {b : Nat} {v : Value} {w : World} (hT : Begins T rest.length) (hb : w.heap[b]? = some (.cells ((.pointer none) :: v :: rest).toArray T (0, 0))) :
    Calls Tryz.prog 118 #[.pointer (some ⟨b, 0, none⟩)] w fun e w' => e = .returned (.tuple #[]) ∧ w' = w.setCell ⟨b, 0, none⟩ (.pointer (some ⟨b, 0, none⟩)) := by
  obtain ⟨j, hj, hjs⟩ := Option.map_eq_some_iff.1 info122
  have hsh : w.shape? b = some (T, rest.length + 2) := by simp [World.shape?, hb]
  have h0 : w.cell? ⟨b, 0, none⟩ = some (.pointer none) := by rw [Lib.cell_of_heap hb]; rfl
  have hf : w.frozen? ⟨b, 0, none⟩ = false := Lib.frozen_of_heap hb 0
  have hl := Aside0.mk hT.2
  clear hb hT
  go_enter Tryz.func118, Tryz.ntmps118
  go_wp2
  rw [Lib.run_to_unsafe w ⟨b, 0, none⟩ Tryz.underlying120 Tryz.underlying217 hj (by rw [hjs]; decide) hsh (Nat.zero_lt_succ _)]
  simp only [Result.andThen]
  rw [Oper.upon_value]
  go_wp2
  rw [run_callFunc_extern Tryz.func171 (by kernel_rfl) (by kernel_rfl) (by kernel_rfl) (e := Extern.AbiNoEscape.same) (by kernel_rfl)]
  rw [Lib.run_noEscape]
  simp only [Result.andThen]
  rw [Oper.upon_value]
  go_wp2
  rw [Lib.run_from_unsafe w ⟨b, 0, none⟩ Tryz.underlying217 Tryz.underlying120 hj hsh hl.out]
  simp only [Result.andThen]
  rw [Oper.upon_value]
  go_wp2
  go_end0
  exact ⟨rfl, rfl⟩
set_option maxHeartbeats 1000000 in
set_option maxRecDepth 100000 in
theorem check_used {T : TypeId} {rest : List Value} {b : Nat} {v : Value} {w : World} (hb : w.heap[b]? = some (.cells ((.pointer (some ⟨b, 0, none⟩)) :: v :: rest).toArray T (0, 0))) :
    Calls Tryz.prog 118 #[.pointer (some ⟨b, 0, none⟩)] w fun e w' => e = .returned (.tuple #[]) ∧ w' = w := by
  obtain ⟨j, hj, hjs⟩ := Option.map_eq_some_iff.1 info122
  have h0 : w.cell? ⟨b, 0, none⟩ = some (.pointer (some ⟨b, 0, none⟩)) := by rw [Lib.cell_of_heap hb]; rfl
  have hne := Lib.run_neq_ptr_same (P := Tryz.prog) w (tp := 120) (te := 122) (j := j) ⟨b, 0, none⟩ Tryz.underlying120 hj
  clear hb
  go_enter Tryz.func118, Tryz.ntmps118
  go_wp2
  first | go_end0 | skip
  exact ⟨rfl, rfl⟩
/-- copyCheck: the builder is its own then. -/
theorem check_calls {T : TypeId} {rest : List Value} {base b : Nat} {bs : List Value} {w : World} (hT : Begins T rest.length) (h : Bld T rest base b bs w) :
    Calls Tryz.prog 118 #[.pointer (some ⟨b, 0, none⟩)] w fun e w' => e = .returned (.tuple #[]) ∧ (∃ v, w'.heap[b]? = some (.cells ((.pointer (some ⟨b, 0, none⟩)) :: v :: rest).toArray T (0, 0)) ∧ w'.ownsRow base 5 1 v bs.length bs) ∧ Below base w w' ∧ Kp b w w' ∧ w'.heap.size = w.heap.size := by
  obtain ⟨hB, p, v, hp, hb, ho⟩ := h
  rcases hp with rfl | rfl
  · refine (check_fresh hT hb).mono ?_
    rintro e w' ⟨rfl, rfl⟩
    exact ⟨rfl, ⟨v, setCell_heap hb _, own_set ho hb hT.1⟩, (Below.refl _ _).setCell (p := ⟨b, 0, none⟩) hB _, (Kp.refl _ w).setCell ⟨b, 0, none⟩ rfl _, by simp [World.setCell]⟩
  · refine (check_used hb).mono ?_
    rintro e w' ⟨rfl, rfl⟩
    exact ⟨rfl, ⟨v, hb, ho⟩, Below.refl _ _, Kp.refl _ _, rfl⟩
theorem Bld.base_le {T : TypeId} {rest : List Value} {base b : Nat} {bs : List Value} {w : World} (h : Bld T rest base b bs w) : base ≤ w.heap.size := by
  have := h.lt; have := h.1; omega
theorem own5_block {w : World} {base n : Nat} {v : Value} {xs : List Value} (h : w.ownsRow base 5 1 v n xs) : ∀ g, v.ownBlock = some g → ∃ c, w.heap[g]? = some (.cells c 5 (0, 0)) := by
  intro g hg
  rcases h.2 with ⟨rfl, _⟩ | ⟨g', cap, cur, rfl, _, hh, _⟩
  · cases hg
  · simp only [Value.ownBlock, Option.some.injEq] at hg
    subst hg; exact ⟨_, hh⟩
/-- What a new buffer in the builder's second cell leaves. -/
theorem bld_put {T : TypeId} {rest : List Value} {base b : Nat} {xs : List Value} {w : World} {v u : Value} (hT : T ≠ 5) (hB : base ≤ b) (hb : w.heap[b]? = some (.cells ((.pointer (some ⟨b, 0, none⟩)) :: v :: rest).toArray T (0, 0))) (ho : w.ownsRow base 5 1 u xs.length xs) :
    Bld T rest base b xs (w.setCell ⟨b, 1, none⟩ u) :=
  ⟨hB, _, u, .inr rfl, setCell_heap hb u, own_set ho hb hT⟩
set_option maxHeartbeats 2000000 in
set_option maxRecDepth 100000 in
theorem writeByte_calls {T : TypeId} {rest : List Value} {base b : Nat} {bs : List Value} {w : World} (hT : Begins T rest.length) (h : Bld T rest base b bs w) (hlen : bs.length + 1 ≤ 140737488355328) (c : Int) :
    Calls Tryz.prog 117 #[.pointer (some ⟨b, 0, none⟩), .int .u8 c] w fun e w' => e = .returned .nilIface ∧ Bld T rest base b (bs ++ [.int .u8 c]) w' ∧ Below base w w' ∧ Kp b w w' := by
  obtain ⟨i0, hi, hz0, hz1, hz2⟩ := info_parts info5
  have hck := check_calls hT h
  have hB := h.1
  have hbw := h.base_le
  have hT' := Aside0.mk hT
  clear hT h
  replace hck := Aside0.mk hck
  go_enter Tryz.func117, Tryz.ntmps117
  go_wp2_with fail
  refine hck.out.mono ?_
  rintro e w1 ⟨rfl, ⟨v, hbk, hown⟩, hb1, hk1, hz⟩
  have c1 : w1.cell? ⟨b, 1, none⟩ = some v := by rw [Lib.cell_of_heap hbk]; rfl
  have hlt : b < w1.heap.size := by
    rcases Nat.lt_or_ge b w1.heap.size with h' | h'
    · exact h'
    · rw [Array.getElem?_eq_none h'] at hbk; cases hbk
  have HB := Aside0.mk hbk
  have HO := Aside0.mk hown
  have HB1 := Aside0.mk hb1
  have HK1 := Aside0.mk hk1
  replace hz := Aside0.mk hz
  clear hbk hown hb1 hk1 hck
  go_wp2_with (at_builtin; refine wpList_append_own _ rfl _ _ 59 rfl base 5 i0 (.int .u8 0) 1 1 Tryz.underlying59 hi hz0 hz1 hz2 rfl (by decide) _ _ _ rfl (HO.out.alloc _) ⟨w1.heap.size, 0, none⟩ 1 1 [.int .u8 c] rfl rfl ?c1 ?c2 ?c3 ?c4 ?c5 ?_)
  case c1 =>
    intro j u hj
    match j, hj with
    | 0, hj => simp at hj; subst hj; simp [Addr.add]
  case c2 => intro u hu; simp at hu; subst hu; rfl
  case c3 => unfold maxLen; omega
  case c4 => omega
  case c5 => have := hz.out; simp; omega
  intro v' w2 hown' hgrow _
  have hne : v.ownBlock ≠ some b := Lib.ownBlock_ne HO.out HB.out hT'.out.1
  have hb2 : w2.heap[b]? = some (.cells ((.pointer (some ⟨b, 0, none⟩)) :: v :: rest).toArray T (0, 0)) := by
    rw [hgrow.block b (by simp; omega) (fun e => hne e.symm), Below.heap_alloc w1 _ b hlt]
    exact HB.out
  have d1 : w2.cell? ⟨b, 1, none⟩ = some v := by rw [Lib.cell_of_heap hb2]; rfl
  have f1 : w2.frozen? ⟨b, 1, none⟩ = false := Lib.frozen_of_heap hb2 1
  obtain ⟨g, cap, rfl⟩ : ∃ g cap, v' = .slice (some ⟨g, 0, none⟩) (bs.length + 1) cap := by
    rcases hown'.2 with ⟨_, h0⟩ | ⟨g, cap, cur, hv, _⟩
    · omega
    · exact ⟨g, cap, hv⟩
  have hA := bld_put (xs := bs ++ [.int .u8 c]) hT'.out.1 hB hb2 (by simpa using hown')
  have hBel : Below base w (w2.setCell ⟨b, 1, none⟩ (.slice (some ⟨g, 0, none⟩) (bs.length + 1) cap)) :=
    ((HB1.out.alloc (by have := hz.out; omega) _).grown hgrow (by have := hz.out; simp; omega) (fun k hk => (HO.out.lt k hk).1)).setCell (p := ⟨b, 1, none⟩) hB _
  have hKp : Kp b w (w2.setCell ⟨b, 1, none⟩ (.slice (some ⟨g, 0, none⟩) (bs.length + 1) cap)) :=
    ((HK1.out.alloc _).grown hgrow (own5_block (HO.out.alloc _))).setCell ⟨b, 1, none⟩ rfl _
  have HF := Aside0.mk (And.intro hA (And.intro hBel hKp))
  clear hA hBel hKp hown' hgrow hb2 c1
  go_wp2
  go_ret
  exact ⟨rfl, HF.out⟩
set_option maxHeartbeats 2000000 in
set_option maxRecDepth 100000 in
theorem writeString_calls {T : TypeId} {rest : List Value} {base b : Nat} {bs : List Value} {w : World} (hT : Begins T rest.length) (h : Bld T rest base b bs w) (s : ByteArray) (hlen : bs.length + s.size ≤ 140737488355328) :
    Calls Tryz.prog 74 #[.pointer (some ⟨b, 0, none⟩), .string s] w fun e w' => e = .returned (.tuple #[.int .i64 s.size, .nilIface]) ∧ Bld T rest base b (bs ++ Lib.strCells s) w' ∧ Below base w w' ∧ Kp b w w' := by
  obtain ⟨i0, hi, hz0, hz1, hz2⟩ := info_parts info5
  have hck := check_calls hT h
  have hB := h.1
  have hbw := h.base_le
  have hT' := Aside0.mk hT
  clear hT h
  replace hck := Aside0.mk hck
  go_enter Tryz.func74, Tryz.ntmps74
  go_wp2_with fail
  refine hck.out.mono ?_
  rintro e w1 ⟨rfl, ⟨v, hbk, hown⟩, hb1, hk1, hz⟩
  have c1 : w1.cell? ⟨b, 1, none⟩ = some v := by rw [Lib.cell_of_heap hbk]; rfl
  have hlt : b < w1.heap.size := by
    rcases Nat.lt_or_ge b w1.heap.size with h' | h'
    · exact h'
    · rw [Array.getElem?_eq_none h'] at hbk; cases hbk
  have HB := Aside0.mk hbk
  have HO := Aside0.mk hown
  have HB1 := Aside0.mk hb1
  have HK1 := Aside0.mk hk1
  replace hz := Aside0.mk hz
  clear hbk hown hb1 hk1 hck
  go_wp2_with (at_builtin; refine Lib.wpList_append_own_string _ rfl _ _ 59 9 rfl base 5 i0 Tryz.underlying59 Tryz.underlying9 hi hz0 hz1 hz2 _ _ _ rfl HO.out s rfl ?c3 ?c4 ?c5 ?_)
  case c3 => unfold maxLen; omega
  case c4 => omega
  case c5 => have := hz.out; omega
  intro v' w2 hown' hgrow _
  have hne : v.ownBlock ≠ some b := Lib.ownBlock_ne HO.out HB.out hT'.out.1
  have hb2 : w2.heap[b]? = some (.cells ((.pointer (some ⟨b, 0, none⟩)) :: v :: rest).toArray T (0, 0)) := by
    rw [hgrow.block b hlt (fun e => hne e.symm)]
    exact HB.out
  have d1 : w2.cell? ⟨b, 1, none⟩ = some v := by rw [Lib.cell_of_heap hb2]; rfl
  have f1 : w2.frozen? ⟨b, 1, none⟩ = false := Lib.frozen_of_heap hb2 1
  obtain ⟨ao, n', cap, rfl⟩ : ∃ ao n' cap, v' = .slice ao n' cap := by
    rcases hown'.2 with ⟨hv, _⟩ | ⟨g, cap, cur, hv, _⟩
    · exact ⟨_, _, _, hv⟩
    · exact ⟨_, _, _, hv⟩
  have hA := bld_put (xs := bs ++ Lib.strCells s) hT'.out.1 hB hb2 (by simpa [Lib.strCells_length] using hown')
  have hBel : Below base w (w2.setCell ⟨b, 1, none⟩ (.slice ao n' cap)) :=
    (HB1.out.grown hgrow (by have := hz.out; omega) (fun k hk => (HO.out.lt k hk).1)).setCell (p := ⟨b, 1, none⟩) hB _
  have hKp : Kp b w (w2.setCell ⟨b, 1, none⟩ (.slice ao n' cap)) :=
    (HK1.out.grown hgrow (own5_block HO.out)).setCell ⟨b, 1, none⟩ rfl _
  have HF := Aside0.mk (And.intro hA (And.intro hBel hKp))
  clear hA hBel hKp hown' hgrow hb2 c1
  go_wp2
  go_ret2
  exact ⟨rfl, HF.out⟩
theorem cells5 : Tryz.prog.cellsOf 5 = 1 := by kernel_rfl
set_option maxHeartbeats 2000000 in
set_option maxRecDepth 100000 in
/-- String, of a builder that holds a byte. -/
theorem string_calls {T : TypeId} {rest : List Value} {base b : Nat} {l : List UInt8} {w : World} (hT : Begins T rest.length) (h : Bld T rest base b (Lib.byteCells l) w) (h0 : l ≠ []) :
    Calls Tryz.prog 121 #[.pointer (some ⟨b, 0, none⟩)] w fun e w' => e = .returned (.string ⟨l.toArray⟩) ∧ Below base w w' ∧ Kp b w w' := by
  obtain ⟨hB, p, v, hp, hbk, hown⟩ := h
  have hl0 : l.length ≠ 0 := by simpa using h0
  rw [Lib.byteCells_length] at hown
  obtain ⟨g, cap, cur, rfl, hbg, hg, hnc, hcm, hcs, htake⟩ : ∃ g cap cur, v = .slice (some ⟨g, 0, none⟩) l.length cap ∧ base ≤ g ∧ w.heap[g]? = some (.cells cur 5 (0, 0)) ∧ l.length ≤ cap ∧ cap ≤ maxLen ∧ cur.size = cap * 1 ∧ cur.toList.take (l.length * 1) = Lib.byteCells l := by
    rcases hown.2 with ⟨_, hz⟩ | ⟨g, cap, cur, hv, r⟩
    · exact absurd hz hl0
    · exact ⟨g, cap, cur, hv, r⟩
  have c1 : w.drew.cell? ⟨b, 1, none⟩ = some (.slice (some ⟨g, 0, none⟩) l.length cap) := by
    have : w.drew.heap[b]? = some (.cells (p :: .slice (some ⟨g, 0, none⟩) l.length cap :: rest).toArray T (0, 0)) := hbk
    rw [Lib.cell_of_heap this]; rfl
  have hSD : (Builtin.unsafeSliceData_ #[59] 219 #[.slice (some ⟨g, 0, none⟩) l.length cap]).run Tryz.prog w.drew = .ok (.pointer (some ⟨g, 0, none⟩)) w.drew :=
    Lib.run_unsafeSliceData_row _ _ _ _ _ _ (by omega)
  have hUS : (Builtin.unsafeString_ #[219, 3] 9 #[.pointer (some ⟨g, 0, none⟩), .int .i64 l.length]).run Tryz.prog w.drew = .ok (.string ⟨l.toArray⟩) (w.drew.freeze ⟨g, 0, none⟩ l.length) := by
    refine Lib.run_unsafeString_row w.drew 219 3 9 5 Tryz.underlying219 cells5 g cur.size (by have hg' : w.drew.heap[g]? = some (.cells cur 5 (0, 0)) := hg; simp [World.shape?, hg']) l h0 (by omega) (by unfold maxLen at hcm; omega) ?_
    intro j x hx
    have := hown.cells (g := g) rfl j (.int .u8 x.toNat) (by simp [Lib.byteCells, hx])
    exact this
  have hfin : Below base w (w.drew.freeze ⟨g, 0, none⟩ l.length) ∧ Kp b w (w.drew.freeze ⟨g, 0, none⟩ l.length) :=
    ⟨Lib.below_freeze (Below.drew (Below.refl _ w)) (p := ⟨g, 0, none⟩) hbg _, ((Kp.refl _ w).drew).freeze ⟨g, 0, none⟩ _ ⟨cur, hg⟩⟩
  have HF := Aside0.mk hfin
  clear hfin htake hcs hcm hnc hg hbg hown hbk hp h0 hl0 hT
  go_enter Tryz.func121, Tryz.ntmps121
  go_wp2
  go_region
  all_goals (go_wp2; go_ret; exact ⟨rfl, HF.out⟩)
end Go.Proofs.YtofklpphalalhaaGreatDoor
end
section
-- Written by a program out of the translation, for several roots at once (set All). Not trusted: Lean checks it.
namespace Go.Proofs.YtofklpphalalhaaGreatDoor.PAll
open Go.RowKit Go.Proofs.YtofklpphalalhaaGreatDoorW.PrintWords Go.Proofs.YtofklpphalalhaaGreatDoorW.PrintLast Go.Proofs.YtofklpphalalhaaGreatDoorW.PrintMore
attribute [local go_sem] min2_int min_two
set_option linter.unusedVariables false
set_option linter.unusedSimpArgs false
/-! ### packet_reader_fine: function 90 -/
def packet_reader_fine.f (s0_0 : ByteArray) (s0_1 : Int) (s0_2 : Int) (s0_3 : Int) : Option (Bool × ByteArray × Int × Int × Int) := some ((s0_3 == 0), s0_0, s0_1, s0_2, s0_3)
set_option maxHeartbeats 8000000 in
set_option maxRecDepth 100000 in
theorem packet_reader_fine.calls (g : Nat) (s0_0 : ByteArray) (s0_1 : Int) (s0_2 : Int) (s0_3 : Int) (r1 : Bool) (r2 : ByteArray) (r3 : Int) (r4 : Int) (r5 : Int) (w0 w : World) (hI : IsS139 w0 w g s0_0 s0_1 s0_2 s0_3) (hB : Below w0.heap.size w0 w) (h : packet_reader_fine.f s0_0 s0_1 s0_2 s0_3 = some (r1, r2, r3, r4, r5)) :
    Calls Tryz.prog 90 #[.pointer (some ⟨g, 0, none⟩)] w fun e w' => e = .returned (.bool r1) ∧ IsS139 w0 w' g r2 r3 r4 r5 ∧ Below w0.heap.size w0 w' ∧ KeepBut w w' g none := by
  have HI0 := Aside0.mk hI
  have HK := Aside0.mk (KeepBut.refl w g none)
  have HL := Aside0.mk hB.size
  clear hI
  have HW0 := Aside0.mk hB.size
  have HB := Aside0.mk hB
  clear hB
  have H : (some ((s0_3 == 0), s0_0, s0_1, s0_2, s0_3)) = some (r1, r2, r3, r4, r5) := h
  clear h
  simp only [Option.some.injEq, Prod.mk.injEq] at H
  obtain ⟨rfl, rfl, rfl, rfl, rfl⟩ := H
  obtain ⟨HGz2, hgz2⟩ := HI0.out
  have hcz2_0 := cellS139_0 HGz2
  have hcz2_1 := cellS139_1 HGz2
  have hcz2_2 := cellS139_2 HGz2
  have hcz2_3 := cellS139_3 HGz2
  have hfz2_0 := blk_frozen HGz2 0
  have hfz2_1 := blk_frozen HGz2 1
  have hfz2_2 := blk_frozen HGz2 2
  have hfz2_3 := blk_frozen HGz2 3
  clear HGz2 hgz2
  go_enter Tryz.func90, Tryz.ntmps90
  go_wp2
  go_ret
  exact ⟨by first | rfl | (simp [errW_none, errW_some] <;> rfl) | (simp [*, errW_none, errW_some] <;> rfl), by repeat (first | (with_reducible first | exact HI0.out | apply IsS139.alloc | apply IsS139.drewN | apply IsS139.drew | apply IsS139.set_0 | apply IsS139.set_1 | apply IsS139.set_2 | apply IsS139.set_3) | exact HI0.out), by repeat (first | (with_reducible first | exact HB.out | apply below_alloc | apply pw_below_drewN | apply below_drew1 | refine below_set ?_ (IsS139.ge HI0.out)) | exact HB.out), by repeat (first | (with_reducible first | exact HK.out | apply KeepBut.set_ | apply keep_drewN | apply keep_drew | apply keep_alloc) | exact HK.out)⟩
/-! ### pack_GetText: function 132 -/
def pack_GetText.f (a0 : ByteArray) (a1 : Int) : Option (ByteArray × Int × Int) := (pack_GetUint.f a0 a1).bind fun bt202 => (if bt202.2.2 = 0 then (if (wrap64 ((a0.size : Int) - bt202.2.1)) < bt202.1 then (some ((⟨#[]⟩ : ByteArray), 0, 211)) else (if 0 ≤ bt202.2.1 then (if bt202.2.1 ≤ (wrap64 (bt202.2.1 + bt202.1)) then (if (wrap64 (bt202.2.1 + bt202.1)) ≤ (a0.size : Int) then (some (a0.extract (bt202.2.1 : Int).toNat ((wrap64 (bt202.2.1 + bt202.1)) : Int).toNat, wrap64 (bt202.2.1 + bt202.1), 0)) else (none)) else (none)) else (none))) else (some ((⟨#[]⟩ : ByteArray), 0, bt202.2.2)))
set_option maxHeartbeats 8000000 in
set_option maxRecDepth 100000 in
theorem pack_GetText.calls (a0 : ByteArray) (a1 : Int) (r1 : ByteArray) (r2 : Int) (r3 : Int) (w : World) (h : pack_GetText.f a0 a1 = some (r1, r2, r3)) :
    Calls Tryz.prog 132 #[.string a0, .int .i64 a1] w fun e w' => e = .returned (.tuple #[.string r1, .int .i64 r2, .int .i64 r3]) ∧ Below w.heap.size w w' := by
  have HB := Aside0.mk (Below.refl w.heap.size w)
  have H : ((pack_GetUint.f a0 a1).bind fun bt202 => (if bt202.2.2 = 0 then (if (wrap64 ((a0.size : Int) - bt202.2.1)) < bt202.1 then (some ((⟨#[]⟩ : ByteArray), 0, 211)) else (if 0 ≤ bt202.2.1 then (if bt202.2.1 ≤ (wrap64 (bt202.2.1 + bt202.1)) then (if (wrap64 (bt202.2.1 + bt202.1)) ≤ (a0.size : Int) then (some (a0.extract (bt202.2.1 : Int).toNat ((wrap64 (bt202.2.1 + bt202.1)) : Int).toNat, wrap64 (bt202.2.1 + bt202.1), 0)) else (none)) else (none)) else (none))) else (some ((⟨#[]⟩ : ByteArray), 0, bt202.2.2)))) = some (r1, r2, r3) := h
  clear h
  replace H := Option.bind_eq_some_iff.mp H
  obtain ⟨⟨t202, t203, t204⟩, A30, H⟩ := H
  replace H : (if t204 = 0 then (if (wrap64 ((a0.size : Int) - t203)) < t202 then (some ((⟨#[]⟩ : ByteArray), 0, 211)) else (if 0 ≤ t203 then (if t203 ≤ (wrap64 (t203 + t202)) then (if (wrap64 (t203 + t202)) ≤ (a0.size : Int) then (some (a0.extract (t203 : Int).toNat ((wrap64 (t203 + t202)) : Int).toNat, wrap64 (t203 + t202), 0)) else (none)) else (none)) else (none))) else (some ((⟨#[]⟩ : ByteArray), 0, t204))) = some (r1, r2, r3) := H
  have A3 := Aside0.mk A30
  clear A30
  by_cases c4 : t204 = 0
  · rw [if_pos c4] at H
    have c4b0 : (t204 == 0) = true := beq_iff_eq.mpr c4
    have c4b1 : (t204 != 0) = false := bne_eq_false_iff_eq.mpr c4
    clear c4
    by_cases c5 : (wrap64 ((a0.size : Int) - t203)) < t202
    · rw [if_pos c5] at H
      have c5b0 : decide ((wrap64 ((a0.size : Int) - t203)) < t202) = true := decide_eq_true c5
      clear c5
      simp only [Option.some.injEq, Prod.mk.injEq] at H
      obtain ⟨rfl, rfl, rfl⟩ := H
      go_enter Tryz.func132, Tryz.ntmps132
      go_wp2_with (first | ((with_reducible refine gate_callee (f := 179) rfl ?_); refine goesL_ (some 13) rfl rfl Tryz.func179 (by kernel_rfl) rfl #[.string a0, .int .i64 a1] rfl (by (try simp only [List.map_toArray, List.map_cons, List.map_nil]); first | done | rfl | (simp only [List.length_drop, List.length_take]; rfl)) ?_; (with_reducible refine (pack_GetUint.calls a0 a1 t202 t203 t204 _ A3.out).mono ?_); rintro e w6 ⟨rfl, hb⟩; refine ⟨_, rfl, ?_⟩; have n0_ := Aside0.mk (below_step (by repeat (first | (with_reducible first | exact HB.out | apply below_alloc | apply pw_below_drewN | apply below_drew1) | exact HB.out)) hb); clear HB; have HB := n0_; clear n0_; (try clear hb); (try clear hb2); (try clear hk); (try clear hi)))
      go_ret3
      exact ⟨by first | rfl | (simp [errW_none, errW_some] <;> rfl) | (simp [*, errW_none, errW_some] <;> rfl), by repeat (first | (with_reducible first | exact HB.out | apply below_alloc | apply pw_below_drewN | apply below_drew1) | exact HB.out)⟩
    · rw [if_neg c5] at H
      have c5b0 : decide ((wrap64 ((a0.size : Int) - t203)) < t202) = false := decide_eq_false c5
      clear c5
      by_cases c7 : 0 ≤ t203
      · rw [if_pos c7] at H
        have c7b0 := eq_true c7
        have c7b1 : decide (0 ≤ t203) = true := decide_eq_true c7
        clear c7
        by_cases c8 : t203 ≤ (wrap64 (t203 + t202))
        · rw [if_pos c8] at H
          have c8b0 := eq_true c8
          have c8b1 : decide (t203 ≤ (wrap64 (t203 + t202))) = true := decide_eq_true c8
          by_cases c9 : (wrap64 (t203 + t202)) ≤ (a0.size : Int)
          · rw [if_pos c9] at H
            have c9b0 := eq_true c9
            have c9b1 : decide ((wrap64 (t203 + t202)) ≤ (a0.size : Int)) = true := decide_eq_true c9
            simp only [Option.some.injEq, Prod.mk.injEq] at H
            obtain ⟨rfl, rfl, rfl⟩ := H
            go_enter Tryz.func132, Tryz.ntmps132
            go_wp2_with (first | ((with_reducible refine gate_callee (f := 179) rfl ?_); refine goesL_ (some 13) rfl rfl Tryz.func179 (by kernel_rfl) rfl #[.string a0, .int .i64 a1] rfl (by (try simp only [List.map_toArray, List.map_cons, List.map_nil]); first | done | rfl | (simp only [List.length_drop, List.length_take]; rfl)) ?_; (with_reducible refine (pack_GetUint.calls a0 a1 t202 t203 t204 _ A3.out).mono ?_); rintro e w10 ⟨rfl, hb⟩; refine ⟨_, rfl, ?_⟩; have n0_ := Aside0.mk (below_step (by repeat (first | (with_reducible first | exact HB.out | apply below_alloc | apply pw_below_drewN | apply below_drew1) | exact HB.out)) hb); clear HB; have HB := n0_; clear n0_; (try clear hb); (try clear hb2); (try clear hk); (try clear hi)))
            go_ret3
            exact ⟨by first | rfl | (simp [errW_none, errW_some] <;> rfl) | (simp [*, errW_none, errW_some] <;> rfl), by repeat (first | (with_reducible first | exact HB.out | apply below_alloc | apply pw_below_drewN | apply below_drew1) | exact HB.out)⟩
          · rw [if_neg c9] at H
            exact absurd H (by simp)
        · rw [if_neg c8] at H
          exact absurd H (by simp)
      · rw [if_neg c7] at H
        exact absurd H (by simp)
  · rw [if_neg c4] at H
    have c4b0 : (t204 == 0) = false := beq_eq_false_iff_ne.mpr c4
    have c4b1 : (t204 != 0) = true := bne_iff_ne.mpr c4
    simp only [Option.some.injEq, Prod.mk.injEq] at H
    obtain ⟨rfl, rfl, rfl⟩ := H
    go_enter Tryz.func132, Tryz.ntmps132
    go_wp2_with (first | ((with_reducible refine gate_callee (f := 179) rfl ?_); refine goesL_ (some 13) rfl rfl Tryz.func179 (by kernel_rfl) rfl #[.string a0, .int .i64 a1] rfl (by (try simp only [List.map_toArray, List.map_cons, List.map_nil]); first | done | rfl | (simp only [List.length_drop, List.length_take]; rfl)) ?_; (with_reducible refine (pack_GetUint.calls a0 a1 t202 t203 t204 _ A3.out).mono ?_); rintro e w11 ⟨rfl, hb⟩; refine ⟨_, rfl, ?_⟩; have n0_ := Aside0.mk (below_step (by repeat (first | (with_reducible first | exact HB.out | apply below_alloc | apply pw_below_drewN | apply below_drew1) | exact HB.out)) hb); clear HB; have HB := n0_; clear n0_; (try clear hb); (try clear hb2); (try clear hk); (try clear hi)))
    go_ret3
    exact ⟨by first | rfl | (simp [errW_none, errW_some] <;> rfl) | (simp [*, errW_none, errW_some] <;> rfl), by repeat (first | (with_reducible first | exact HB.out | apply below_alloc | apply pw_below_drewN | apply below_drew1) | exact HB.out)⟩
-- NOT PRINTED: function 87 (packet_reader_text)
-- NOT PRINTED: function 133 (packet_reader_number)
/-! ### pack_GetInt: function 180 -/
def pack_GetInt.f (a0 : ByteArray) (a1 : Int) : Option (Int × Int × Int) := (pack_GetUint.f a0 a1).bind fun bt217 => (some (Go.bits .xor .i64 (bt217.1 / 2) (wrap64 (-(Go.bits .and .i64 bt217.1 1))), bt217.2.1, bt217.2.2))
set_option maxHeartbeats 8000000 in
set_option maxRecDepth 100000 in
theorem pack_GetInt.calls (a0 : ByteArray) (a1 : Int) (r1 : Int) (r2 : Int) (r3 : Int) (w : World) (h : pack_GetInt.f a0 a1 = some (r1, r2, r3)) :
    Calls Tryz.prog 180 #[.string a0, .int .i64 a1] w fun e w' => e = .returned (.tuple #[.int .i64 r1, .int .i64 r2, .int .i64 r3]) ∧ Below w.heap.size w w' := by
  have HB := Aside0.mk (Below.refl w.heap.size w)
  have H : ((pack_GetUint.f a0 a1).bind fun bt217 => (some (Go.bits .xor .i64 (bt217.1 / 2) (wrap64 (-(Go.bits .and .i64 bt217.1 1))), bt217.2.1, bt217.2.2))) = some (r1, r2, r3) := h
  clear h
  replace H := Option.bind_eq_some_iff.mp H
  obtain ⟨⟨t217, t218, t219⟩, A30, H⟩ := H
  replace H : (some (Go.bits .xor .i64 (t217 / 2) (wrap64 (-(Go.bits .and .i64 t217 1))), t218, t219)) = some (r1, r2, r3) := H
  have A3 := Aside0.mk A30
  clear A30
  simp only [Option.some.injEq, Prod.mk.injEq] at H
  obtain ⟨rfl, rfl, rfl⟩ := H
  go_enter Tryz.func180, Tryz.ntmps180
  go_wp2_with (first | ((with_reducible refine gate_callee (f := 179) rfl ?_); refine goesL_ (some 13) rfl rfl Tryz.func179 (by kernel_rfl) rfl #[.string a0, .int .i64 a1] rfl (by (try simp only [List.map_toArray, List.map_cons, List.map_nil]); first | done | rfl | (simp only [List.length_drop, List.length_take]; rfl)) ?_; (with_reducible refine (pack_GetUint.calls a0 a1 t217 t218 t219 _ A3.out).mono ?_); rintro e w4 ⟨rfl, hb⟩; refine ⟨_, rfl, ?_⟩; have n0_ := Aside0.mk (below_step (by repeat (first | (with_reducible first | exact HB.out | apply below_alloc | apply pw_below_drewN | apply below_drew1) | exact HB.out)) hb); clear HB; have HB := n0_; clear n0_; (try clear hb); (try clear hb2); (try clear hk); (try clear hi)))
  go_ret3
  exact ⟨by first | rfl | (simp [errW_none, errW_some] <;> rfl) | (simp [*, errW_none, errW_some] <;> rfl), by repeat (first | (with_reducible first | exact HB.out | apply below_alloc | apply pw_below_drewN | apply below_drew1) | exact HB.out)⟩
/-! ### packet_spot_int: function 134 -/
def packet_spot_int.f (a0_0 : ByteArray) (a0_1 : Int) : Option (Int × Int × Int) := (pack_GetInt.f a0_0 a0_1).bind fun bt221 => (some (bt221.1, bt221.2.1, bt221.2.2))
set_option maxHeartbeats 8000000 in
set_option maxRecDepth 100000 in
theorem packet_spot_int.calls (a0_0 : ByteArray) (a0_1 : Int) (r1 : Int) (r2 : Int) (r3 : Int) (w : World) (h : packet_spot_int.f a0_0 a0_1 = some (r1, r2, r3)) :
    Calls Tryz.prog 134 #[.agg #[.string a0_0, .int .i64 a0_1]] w fun e w' => e = .returned (.tuple #[.int .i64 r1, .int .i64 r2, .int .i64 r3]) ∧ Below w.heap.size w w' := by
  have hu137 := Tryz.underlying137
  have HB := Aside0.mk (Below.refl w.heap.size w)
  have H : ((pack_GetInt.f a0_0 a0_1).bind fun bt221 => (some (bt221.1, bt221.2.1, bt221.2.2))) = some (r1, r2, r3) := h
  clear h
  replace H := Option.bind_eq_some_iff.mp H
  obtain ⟨⟨t221, t222, t223⟩, A20, H⟩ := H
  replace H : (some (t221, t222, t223)) = some (r1, r2, r3) := H
  have A2 := Aside0.mk A20
  clear A20
  simp only [Option.some.injEq, Prod.mk.injEq] at H
  obtain ⟨rfl, rfl, rfl⟩ := H
  go_enter Tryz.func134, Tryz.ntmps134
  go_wp2_with (first | ((with_reducible refine gate_dst (N := 1) rfl ?_); refine box_event ?hg (N := 1) ?hd (cs := #[.string a0_0, .int .i64 a0_1]) (t := 137) ?hr ?_; (case hd => rfl); (case hg => rfl); (case hr => first | (go_simp; done) | (go_simp; rfl)); intro gb220 hg w3 hbox hb; have n0_ := Aside0.mk (below_step (by repeat (first | (with_reducible first | exact HB.out | apply below_alloc | apply pw_below_drewN | apply below_drew1) | exact HB.out)) hb); have n1_ := Aside0.mk (hbox); have n2_ := Aside0.mk ((by rw [hg]; exact (below_size (by repeat (first | (with_reducible first | exact HB.out | apply below_alloc | apply pw_below_drewN | apply below_drew1) | exact HB.out))) : w.heap.size ≤ gb220)); have n3_ := Aside0.mk ((by rw [hg]; exact (below_size (by repeat (first | (with_reducible first | exact HB.out | apply below_alloc | apply pw_below_drewN | apply below_drew1) | exact HB.out))) : w.heap.size ≤ gb220)); clear HB; have HB := n0_; have BK220 := n1_; have GW220 := n2_; have GE220 := n3_; clear n0_ n1_ n2_ n3_; clear hb hbox hg; have hcz4_0 : w3.cell? ⟨gb220, 0, none⟩ = some (.string a0_0) := (blk_cell BK220.out 0).trans rfl; have hcz4_1 : w3.cell? ⟨gb220, 1, none⟩ = some (.int .i64 a0_1) := (blk_cell BK220.out 1).trans rfl; have hfz4_0 := blk_frozen BK220.out 0; have hfz4_1 := blk_frozen BK220.out 1) | ((with_reducible refine gate_callee (f := 180) rfl ?_); refine goesL_ (some 9) rfl rfl Tryz.func180 (by kernel_rfl) rfl #[.string a0_0, .int .i64 a0_1] rfl (by (try simp only [List.map_toArray, List.map_cons, List.map_nil]); first | done | rfl | (simp only [List.length_drop, List.length_take]; rfl)) ?_; (with_reducible refine (pack_GetInt.calls a0_0 a0_1 t221 t222 t223 _ A2.out).mono ?_); rintro e w5 ⟨rfl, hb⟩; refine ⟨_, rfl, ?_⟩; have n0_ := Aside0.mk (blk_below (g := gb220) (o := .cells #[.string a0_0, .int .i64 a0_1] 137 (0, 0)) (by (with_reducible repeat (first | refine blk_drewN ?_ _ | refine blk_drew ?_ | refine blk_alloc ?_ _)); exact BK220.out) hb); have n1_ := Aside0.mk (below_step (by repeat (first | (with_reducible first | exact HB.out | apply below_alloc | apply pw_below_drewN | apply below_drew1 | refine below_set ?_ GE220.out) | exact HB.out)) hb); clear BK220; clear HB; have BK220 := n0_; have HB := n1_; clear n0_ n1_; (try clear hb); (try clear hb2); (try clear hk); (try clear hi)))
  go_ret3
  exact ⟨by first | rfl | (simp [errW_none, errW_some] <;> rfl) | (simp [*, errW_none, errW_some] <;> rfl), by repeat (first | (with_reducible first | exact HB.out | apply below_alloc | apply pw_below_drewN | apply below_drew1 | refine below_set ?_ GE220.out) | exact HB.out)⟩
-- NOT PRINTED: function 88 (packet_reader_ints)
/-! ### packet_spot_uint: function 135 -/
def packet_spot_uint.f (a0_0 : ByteArray) (a0_1 : Int) : Option (Int × Int × Int) := (pack_GetUint.f a0_0 a0_1).bind fun bt225 => (some (bt225.1, bt225.2.1, bt225.2.2))
set_option maxHeartbeats 8000000 in
set_option maxRecDepth 100000 in
theorem packet_spot_uint.calls (a0_0 : ByteArray) (a0_1 : Int) (r1 : Int) (r2 : Int) (r3 : Int) (w : World) (h : packet_spot_uint.f a0_0 a0_1 = some (r1, r2, r3)) :
    Calls Tryz.prog 135 #[.agg #[.string a0_0, .int .i64 a0_1]] w fun e w' => e = .returned (.tuple #[.int .i64 r1, .int .i64 r2, .int .i64 r3]) ∧ Below w.heap.size w w' := by
  have hu137 := Tryz.underlying137
  have HB := Aside0.mk (Below.refl w.heap.size w)
  have H : ((pack_GetUint.f a0_0 a0_1).bind fun bt225 => (some (bt225.1, bt225.2.1, bt225.2.2))) = some (r1, r2, r3) := h
  clear h
  replace H := Option.bind_eq_some_iff.mp H
  obtain ⟨⟨t225, t226, t227⟩, A20, H⟩ := H
  replace H : (some (t225, t226, t227)) = some (r1, r2, r3) := H
  have A2 := Aside0.mk A20
  clear A20
  simp only [Option.some.injEq, Prod.mk.injEq] at H
  obtain ⟨rfl, rfl, rfl⟩ := H
  go_enter Tryz.func135, Tryz.ntmps135
  go_wp2_with (first | ((with_reducible refine gate_dst (N := 1) rfl ?_); refine box_event ?hg (N := 1) ?hd (cs := #[.string a0_0, .int .i64 a0_1]) (t := 137) ?hr ?_; (case hd => rfl); (case hg => rfl); (case hr => first | (go_simp; done) | (go_simp; rfl)); intro gb224 hg w3 hbox hb; have n0_ := Aside0.mk (below_step (by repeat (first | (with_reducible first | exact HB.out | apply below_alloc | apply pw_below_drewN | apply below_drew1) | exact HB.out)) hb); have n1_ := Aside0.mk (hbox); have n2_ := Aside0.mk ((by rw [hg]; exact (below_size (by repeat (first | (with_reducible first | exact HB.out | apply below_alloc | apply pw_below_drewN | apply below_drew1) | exact HB.out))) : w.heap.size ≤ gb224)); have n3_ := Aside0.mk ((by rw [hg]; exact (below_size (by repeat (first | (with_reducible first | exact HB.out | apply below_alloc | apply pw_below_drewN | apply below_drew1) | exact HB.out))) : w.heap.size ≤ gb224)); clear HB; have HB := n0_; have BK224 := n1_; have GW224 := n2_; have GE224 := n3_; clear n0_ n1_ n2_ n3_; clear hb hbox hg; have hcz4_0 : w3.cell? ⟨gb224, 0, none⟩ = some (.string a0_0) := (blk_cell BK224.out 0).trans rfl; have hcz4_1 : w3.cell? ⟨gb224, 1, none⟩ = some (.int .i64 a0_1) := (blk_cell BK224.out 1).trans rfl; have hfz4_0 := blk_frozen BK224.out 0; have hfz4_1 := blk_frozen BK224.out 1) | ((with_reducible refine gate_callee (f := 179) rfl ?_); refine goesL_ (some 9) rfl rfl Tryz.func179 (by kernel_rfl) rfl #[.string a0_0, .int .i64 a0_1] rfl (by (try simp only [List.map_toArray, List.map_cons, List.map_nil]); first | done | rfl | (simp only [List.length_drop, List.length_take]; rfl)) ?_; (with_reducible refine (pack_GetUint.calls a0_0 a0_1 t225 t226 t227 _ A2.out).mono ?_); rintro e w5 ⟨rfl, hb⟩; refine ⟨_, rfl, ?_⟩; have n0_ := Aside0.mk (blk_below (g := gb224) (o := .cells #[.string a0_0, .int .i64 a0_1] 137 (0, 0)) (by (with_reducible repeat (first | refine blk_drewN ?_ _ | refine blk_drew ?_ | refine blk_alloc ?_ _)); exact BK224.out) hb); have n1_ := Aside0.mk (below_step (by repeat (first | (with_reducible first | exact HB.out | apply below_alloc | apply pw_below_drewN | apply below_drew1 | refine below_set ?_ GE224.out) | exact HB.out)) hb); clear BK224; clear HB; have BK224 := n0_; have HB := n1_; clear n0_ n1_; (try clear hb); (try clear hb2); (try clear hk); (try clear hi)))
  go_ret3
  exact ⟨by first | rfl | (simp [errW_none, errW_some] <;> rfl) | (simp [*, errW_none, errW_some] <;> rfl), by repeat (first | (with_reducible first | exact HB.out | apply below_alloc | apply pw_below_drewN | apply below_drew1 | refine below_set ?_ GE224.out) | exact HB.out)⟩
-- NOT PRINTED: function 89 (packet_reader_count)
-- NOT PRINTED: function 91 (packet_reader_list)
-- NOT PRINTED: function 92 (packet_reader_end)
/-! ### entrepotref21_PutUint: function 82 -/
def entrepotref21_PutUint.l0 : Nat → Int → List Int → Option (ByteArray)
  | 0, _, _ => none
  | k + 1, x0, x3 => if x0 ≥ 128 then (if x3.length < 140737488355328 then (entrepotref21_PutUint.l0 k (wrap64 (Int.tdiv x0 128)) (x3 ++ [(wrap64 ((Int.tmod x0 128) + 128)) % 256])) else (none)) else (if x3.length < 140737488355328 then (some (strOfNums (x3 ++ [(x0) % 256]))) else (none))
def entrepotref21_PutUint.f (k : Nat) (a0 : Int) : Option (ByteArray) := if a0 < 0 then (some (⟨#[]⟩ : ByteArray)) else (entrepotref21_PutUint.l0 k a0 (([] : List Int)))
/-! ### entrepotref21_PutText: function 80 -/
/-! ### entrepotref21_PutInt: function 122 -/
def entrepotref21_PutInt.j0 : Nat → Int → Bool → Option (ByteArray)
  | 0, _, _ => none
  | k + 1, x0, x8 => if x8 = true then (some (⟨#[]⟩ : ByteArray)) else (if x0 < 0 then ((entrepotref21_PutUint.f k (wrap64 ((-1) - (wrap64 (2 * x0))))).bind fun t243 => (some t243)) else ((entrepotref21_PutUint.f k (wrap64 (2 * x0))).bind fun t244 => (some t244)))
def entrepotref21_PutInt.f (k : Nat) (a0 : Int) : Option (ByteArray) := if a0 < (-2305843009213693952) then (entrepotref21_PutInt.j0 k a0 true) else (entrepotref21_PutInt.j0 k a0 (decide (a0 > 2305843009213693951)))
/-! ### entrepotref22_ints: function 81 -/
def entrepotref22_ints.l0 : Nat → List Int → ByteArray → Int → Option (ByteArray)
  | 0, _, _, _ => none
  | k + 1, x0, x3, x4 => if x4 < (x0.length : Int) then (if 0 ≤ x4 then ((entrepotref21_PutInt.f k (rd x0 x4)).bind fun t246 => (if x3.size + t246.size ≤ 9223372036854775807 then (entrepotref22_ints.l0 k x0 (x3 ++ t246) (wrap64 (x4 + 1))) else (none))) else (none)) else (some x3)
end Go.Proofs.YtofklpphalalhaaGreatDoor.PAll
end
