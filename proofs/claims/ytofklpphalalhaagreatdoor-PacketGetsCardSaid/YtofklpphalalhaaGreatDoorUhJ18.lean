/- Texts of this claim, joined: Bld, GivenQ. Each as it was, cut to what the claim uses. Conditions: each theorem's own. -/
import Derived.Test.YtofklpphalalhaaGreatDoorUhJ3
import Derived.Lib.OthersKept
import Derived.Lib.FrozenHead2
import Derived.Shelf.Strings.Builder1
import Derived.Laws.Externs
import Derived.RegionTactic
import Derived.Test.YtofklpphalalhaaGreatDoorUhJ1
import Derived.Test.YtofklpphalalhaaGreatDoorUhJ10
import Derived.Test.YtofklpphalalhaaGreatDoorUhJ16
section
namespace Go.Proofs.YtofklpphalalhaaGreatDoor
set_option linter.unusedVariables false
set_option linter.unusedSimpArgs false
open Go.RowKit Go.Proofs.YtofklpphalalhaaGreatDoor.PAll Go.Proofs.YtofklpphalalhaaGreatDoorW.PrintWords Go.Proofs.YtofklpphalalhaaGreatDoorW.PrintLast
/-- All blocks but b, and but the rows of bytes that are not frozen, stay. -/
def Kp (b : Nat) (w w' : World) : Prop := ∀ k o, w.heap[k]? = some o → k ≠ b → (∀ c, o ≠ .cells c 5 (0, 0)) → w'.heap[k]? = some o
theorem Kp.refl (b : Nat) (w : World) : Kp b w w := fun _ _ h _ _ => h
theorem Kp.trans {b : Nat} {a c d : World} (h : Kp b a c) (k : Kp b c d) : Kp b a d := fun i o hi hb ho => k i o (h i o hi hb ho) hb ho
theorem Kp.drew {b : Nat} {a w : World} (h : Kp b a w) : Kp b a w.drew := h
theorem Kp.alloc {b : Nat} {a w : World} (h : Kp b a w) (o : Obj) : Kp b a (w.alloc o) := by
 intro k x hk hb hx
 have h1 := h k x hk hb hx
 rw [Below.heap_alloc w o k (Array.getElem?_eq_some_iff.1 h1).1]; exact h1
theorem Kp.setCell {b : Nat} {a w : World} (h : Kp b a w) (p : Addr) (hp : p.block = b) (v : Value) : Kp b a (w.setCell p v) := by
 intro k x hk hb hx
 rw [Below.heap_setCell _ _ _ _ (fun e => hb (by rw [← hp, e]))]
 exact h k x hk hb hx
theorem Kp.grown {b : Nat} {a w w' : World} {row : Option Nat} (h : Kp b a w) (hg : w.grownBy w' row) (hrow : ∀ g, row = some g → ∃ c, w.heap[g]? = some (.cells c 5 (0, 0))) : Kp b a w' := by
 intro k x hk hb hx
 have h1 := h k x hk hb hx
 rw [hg.block k (Array.getElem?_eq_some_iff.1 h1).1 ?_]
 ·exact h1
 ·intro hk2
  obtain ⟨c, hc⟩ := hrow k hk2.symm
  rw [h1] at hc
  exact hx c (Option.some.inj hc)
theorem Kp.freeze {b : Nat} {a w : World} (h : Kp b a w) (p : Addr) (n : Nat) (hp : ∃ c, w.heap[p.block]? = some (.cells c 5 (0, 0))) : Kp b a (w.freeze p n) := by
 intro k x hk hb hx
 have h1 := h k x hk hb hx
 unfold World.freeze
 split
 ·exact h1
 ·simp only [Array.getElem?_modify]
  split
  ·rename_i hpk
   obtain ⟨c, hc⟩ := hp
   rw [hpk, h1] at hc
   exact absurd (Option.some.inj hc) (hx c)
  ·exact h1
theorem Kp.other {b : Nat} {w w' : World} (h : Kp b w w') : Lib.OthersKept 5 (some b) w w' := fun k o hk hb ho => h k o hk (fun e => hb (by rw [e])) (fun c => ho c _)
/-- Block b is of type T: a builder that holds the bytes bs (as cells), then the cells of rest. -/
def Bld (T : TypeId) (rest : List Value) (base b : Nat) (bs : List Value) (w : World) : Prop :=
 base ≤ b ∧ ∃ p v, (p = .pointer none ∨ p = .pointer (some ⟨b, 0, none⟩)) ∧ w.heap[b]? = some (.cells (p :: v :: rest).toArray T (0, 0)) ∧ w.ownsRow base 5 1 v bs.length bs
/-- A type whose values begin with a builder. -/
def Begins (T n : Nat) : Prop := T ≠ 5 ∧ liesAt Tryz.prog Tryz.prog.depth T ((n + 2) / Tryz.prog.cellsOf T) 0 122 1 = true
theorem begins124 : Begins 124 0 := ⟨by decide, by kernel_rfl⟩
theorem Bld.lt {T : TypeId} {rest : List Value} {base b : Nat} {bs : List Value} {w : World} (h : Bld T rest base b bs w) : b < w.heap.size := by
 obtain ⟨_, p, v, _, hb, _⟩ := h
 rcases Nat.lt_or_ge b w.heap.size with h' | h'
 ·exact h'
 ·rw [Array.getElem?_eq_none h'] at hb; cases hb
theorem setCell_heap {w : World} {b j : Nat} {cs : Array Value} {T : TypeId} {fz : Nat × Nat} (h : w.heap[b]? = some (.cells cs T fz)) (u : Value) : (w.setCell ⟨b, j, none⟩ u).heap[b]? = some (.cells (cs.setIfInBounds j u) T fz) := by
 simp [World.setCell, Array.getElem?_modify, h]
theorem own_set {w : World} {base e n b j : Nat} {v u : Value} {xs : List Value} {cs : Array Value} {T : TypeId} {fz : Nat × Nat} (h : w.ownsRow base e 1 v n xs) (hb : w.heap[b]? = some (.cells cs T fz)) (hT : T ≠ e) : (w.setCell ⟨b, j, none⟩ u).ownsRow base e 1 v n xs :=
 h.kept (row := some b) (grown_set w b j u) (.inr (Lib.ownBlock_ne h hb hT))
theorem info5 : (Tryz.prog.info? 5).map (fun i => (i.zero, i.size, i.bytes)) = some (some (.int .u8 0), 1, 1) := by kernel_rfl
theorem info122 : (Tryz.prog.info? 122).map (fun i => i.size) = some 2 := by kernel_rfl
set_option maxHeartbeats 1000000 in
set_option maxRecDepth 100000 in
theorem check_fresh {T : TypeId} {rest : List Value} {b : Nat} {v : Value} {w : World} (hT : Begins T rest.length) (hb : w.heap[b]? = some (.cells ((.pointer none) :: v :: rest).toArray T (0, 0))) :
  Calls Tryz.prog 118 #[.pointer (some ⟨b, 0, none⟩)] w fun e w' => e = .returned (.tuple #[]) ∧ w' = w.setCell ⟨b, 0, none⟩ (.pointer (some ⟨b, 0, none⟩)) := by
 obtain ⟨j, hj, hjs⟩ := Option.map_eq_some_iff.1 info122
 have hsh : w.shape? b = some (T, rest.length + 2) := by simp [World.shape?, hb]
 have h0 : w.cell? ⟨b, 0, none⟩ = some (.pointer none) := by rw [Lib.cell_of_heap hb]; rfl
 have hf : w.frozen? ⟨b, 0, none⟩ = false := Lib.frozen_of_heap hb 0
 have hl := Aside0.mk hT.2
 clear hb hT
 go_enter Tryz.func118, Tryz.ntmps118
 go_wp2
 rw [Lib.run_to_unsafe w ⟨b, 0, none⟩ Tryz.underlying120 Tryz.underlying217 hj (by rw [hjs]; decide) hsh (Nat.zero_lt_succ _)]
 simp only [Result.andThen]
 rw [Oper.upon_value]
 go_wp2
 rw [run_callFunc_extern Tryz.func171 (by kernel_rfl) (by kernel_rfl) (by kernel_rfl) (e := Extern.AbiNoEscape.same) (by kernel_rfl)]
 rw [Lib.run_noEscape]
 simp only [Result.andThen]
 rw [Oper.upon_value]
 go_wp2
 rw [Lib.run_from_unsafe w ⟨b, 0, none⟩ Tryz.underlying217 Tryz.underlying120 hj hsh hl.out]
 simp only [Result.andThen]
 rw [Oper.upon_value]
 go_wp2
 go_end0
 exact ⟨rfl, rfl⟩
set_option maxHeartbeats 1000000 in
set_option maxRecDepth 100000 in
theorem check_used {T : TypeId} {rest : List Value} {b : Nat} {v : Value} {w : World} (hb : w.heap[b]? = some (.cells ((.pointer (some ⟨b, 0, none⟩)) :: v :: rest).toArray T (0, 0))) :
  Calls Tryz.prog 118 #[.pointer (some ⟨b, 0, none⟩)] w fun e w' => e = .returned (.tuple #[]) ∧ w' = w := by
 obtain ⟨j, hj, hjs⟩ := Option.map_eq_some_iff.1 info122
 have h0 : w.cell? ⟨b, 0, none⟩ = some (.pointer (some ⟨b, 0, none⟩)) := by rw [Lib.cell_of_heap hb]; rfl
 have hne := Lib.run_neq_ptr_same (P := Tryz.prog) w (tp := 120) (te := 122) (j := j) ⟨b, 0, none⟩ Tryz.underlying120 hj
 clear hb
 go_enter Tryz.func118, Tryz.ntmps118
 go_wp2
 first | go_end0 | skip
 exact ⟨rfl, rfl⟩
/-- copyCheck: the builder is its own then. -/
theorem check_calls {T : TypeId} {rest : List Value} {base b : Nat} {bs : List Value} {w : World} (hT : Begins T rest.length) (h : Bld T rest base b bs w) :
  Calls Tryz.prog 118 #[.pointer (some ⟨b, 0, none⟩)] w fun e w' => e = .returned (.tuple #[]) ∧ (∃ v, w'.heap[b]? = some (.cells ((.pointer (some ⟨b, 0, none⟩)) :: v :: rest).toArray T (0, 0)) ∧ w'.ownsRow base 5 1 v bs.length bs) ∧ Below base w w' ∧ Kp b w w' ∧ w'.heap.size = w.heap.size := by
 obtain ⟨hB, p, v, hp, hb, ho⟩ := h
 rcases hp with rfl | rfl
 ·refine (check_fresh hT hb).mono ?_
  rintro e w' ⟨rfl, rfl⟩
  exact ⟨rfl, ⟨v, setCell_heap hb _, own_set ho hb hT.1⟩, (Below.refl _ _).setCell (p := ⟨b, 0, none⟩) hB _, (Kp.refl _ w).setCell ⟨b, 0, none⟩ rfl _, by simp [World.setCell]⟩
 ·refine (check_used hb).mono ?_
  rintro e w' ⟨rfl, rfl⟩
  exact ⟨rfl, ⟨v, hb, ho⟩, Below.refl _ _, Kp.refl _ _, rfl⟩
theorem Bld.base_le {T : TypeId} {rest : List Value} {base b : Nat} {bs : List Value} {w : World} (h : Bld T rest base b bs w) : base ≤ w.heap.size := by
 have := h.lt; have := h.1; omega
theorem own5_block {w : World} {base n : Nat} {v : Value} {xs : List Value} (h : w.ownsRow base 5 1 v n xs) : ∀ g, v.ownBlock = some g → ∃ c, w.heap[g]? = some (.cells c 5 (0, 0)) := by
 intro g hg
 rcases h.2 with ⟨rfl, _⟩ | ⟨g', cap, cur, rfl, _, hh, _⟩
 ·cases hg
 ·simp only [Value.ownBlock, Option.some.injEq] at hg
  subst hg; exact ⟨_, hh⟩
/-- What a new buffer in the builder's second cell leaves. -/
theorem bld_put {T : TypeId} {rest : List Value} {base b : Nat} {xs : List Value} {w : World} {v u : Value} (hT : T ≠ 5) (hB : base ≤ b) (hb : w.heap[b]? = some (.cells ((.pointer (some ⟨b, 0, none⟩)) :: v :: rest).toArray T (0, 0))) (ho : w.ownsRow base 5 1 u xs.length xs) :
  Bld T rest base b xs (w.setCell ⟨b, 1, none⟩ u) :=
 ⟨hB, _, u, .inr rfl, setCell_heap hb u, own_set ho hb hT⟩
set_option maxHeartbeats 2000000 in
set_option maxRecDepth 100000 in
theorem writeByte_calls {T : TypeId} {rest : List Value} {base b : Nat} {bs : List Value} {w : World} (hT : Begins T rest.length) (h : Bld T rest base b bs w) (hlen : bs.length + 1 ≤ 140737488355328) (c : Int) :
  Calls Tryz.prog 117 #[.pointer (some ⟨b, 0, none⟩), .int .u8 c] w fun e w' => e = .returned .nilIface ∧ Bld T rest base b (bs ++ [.int .u8 c]) w' ∧ Below base w w' ∧ Kp b w w' := by
 obtain ⟨i0, hi, hz0, hz1, hz2⟩ := info_parts info5
 have hck := check_calls hT h
 have hB := h.1
 have hbw := h.base_le
 have hT' := Aside0.mk hT
 clear hT h
 replace hck := Aside0.mk hck
 go_enter Tryz.func117, Tryz.ntmps117
 go_wp2_with fail
 refine hck.out.mono ?_
 rintro e w1 ⟨rfl, ⟨v, hbk, hown⟩, hb1, hk1, hz⟩
 have c1 : w1.cell? ⟨b, 1, none⟩ = some v := by rw [Lib.cell_of_heap hbk]; rfl
 have hlt : b < w1.heap.size := by
  rcases Nat.lt_or_ge b w1.heap.size with h' | h'
  ·exact h'
  ·rw [Array.getElem?_eq_none h'] at hbk; cases hbk
 have HB := Aside0.mk hbk
 have HO := Aside0.mk hown
 have HB1 := Aside0.mk hb1
 have HK1 := Aside0.mk hk1
 replace hz := Aside0.mk hz
 clear hbk hown hb1 hk1 hck
 go_wp2_with (at_builtin; refine wpList_append_own _ rfl _ _ 59 rfl base 5 i0 (.int .u8 0) 1 1 Tryz.underlying59 hi hz0 hz1 hz2 rfl (by decide) _ _ _ rfl (HO.out.alloc _) ⟨w1.heap.size, 0, none⟩ 1 1 [.int .u8 c] rfl rfl ?c1 ?c2 ?c3 ?c4 ?c5 ?_)
 case c1 =>
  intro j u hj
  match j, hj with
  | 0, hj => simp at hj; subst hj; simp [Addr.add]
 case c2 => intro u hu; simp at hu; subst hu; rfl
 case c3 => unfold maxLen; omega
 case c4 => omega
 case c5 => have := hz.out; simp; omega
 intro v' w2 hown' hgrow _
 have hne : v.ownBlock ≠ some b := Lib.ownBlock_ne HO.out HB.out hT'.out.1
 have hb2 : w2.heap[b]? = some (.cells ((.pointer (some ⟨b, 0, none⟩)) :: v :: rest).toArray T (0, 0)) := by
  rw [hgrow.block b (by simp; omega) (fun e => hne e.symm), Below.heap_alloc w1 _ b hlt]
  exact HB.out
 have d1 : w2.cell? ⟨b, 1, none⟩ = some v := by rw [Lib.cell_of_heap hb2]; rfl
 have f1 : w2.frozen? ⟨b, 1, none⟩ = false := Lib.frozen_of_heap hb2 1
 obtain ⟨g, cap, rfl⟩ : ∃ g cap, v' = .slice (some ⟨g, 0, none⟩) (bs.length + 1) cap := by
  rcases hown'.2 with ⟨_, h0⟩ | ⟨g, cap, cur, hv, _⟩
  ·omega
  ·exact ⟨g, cap, hv⟩
 have hA := bld_put (xs := bs ++ [.int .u8 c]) hT'.out.1 hB hb2 (by simpa using hown')
 have hBel : Below base w (w2.setCell ⟨b, 1, none⟩ (.slice (some ⟨g, 0, none⟩) (bs.length + 1) cap)) :=
  ((HB1.out.alloc (by have := hz.out; omega) _).grown hgrow (by have := hz.out; simp; omega) (fun k hk => (HO.out.lt k hk).1)).setCell (p := ⟨b, 1, none⟩) hB _
 have hKp : Kp b w (w2.setCell ⟨b, 1, none⟩ (.slice (some ⟨g, 0, none⟩) (bs.length + 1) cap)) :=
  ((HK1.out.alloc _).grown hgrow (own5_block (HO.out.alloc _))).setCell ⟨b, 1, none⟩ rfl _
 have HF := Aside0.mk (And.intro hA (And.intro hBel hKp))
 clear hA hBel hKp hown' hgrow hb2 c1
 go_wp2
 go_ret
 exact ⟨rfl, HF.out⟩
set_option maxHeartbeats 2000000 in
set_option maxRecDepth 100000 in
theorem writeString_calls {T : TypeId} {rest : List Value} {base b : Nat} {bs : List Value} {w : World} (hT : Begins T rest.length) (h : Bld T rest base b bs w) (s : ByteArray) (hlen : bs.length + s.size ≤ 140737488355328) :
  Calls Tryz.prog 74 #[.pointer (some ⟨b, 0, none⟩), .string s] w fun e w' => e = .returned (.tuple #[.int .i64 s.size, .nilIface]) ∧ Bld T rest base b (bs ++ Lib.strCells s) w' ∧ Below base w w' ∧ Kp b w w' := by
 obtain ⟨i0, hi, hz0, hz1, hz2⟩ := info_parts info5
 have hck := check_calls hT h
 have hB := h.1
 have hbw := h.base_le
 have hT' := Aside0.mk hT
 clear hT h
 replace hck := Aside0.mk hck
 go_enter Tryz.func74, Tryz.ntmps74
 go_wp2_with fail
 refine hck.out.mono ?_
 rintro e w1 ⟨rfl, ⟨v, hbk, hown⟩, hb1, hk1, hz⟩
 have c1 : w1.cell? ⟨b, 1, none⟩ = some v := by rw [Lib.cell_of_heap hbk]; rfl
 have hlt : b < w1.heap.size := by
  rcases Nat.lt_or_ge b w1.heap.size with h' | h'
  ·exact h'
  ·rw [Array.getElem?_eq_none h'] at hbk; cases hbk
 have HB := Aside0.mk hbk
 have HO := Aside0.mk hown
 have HB1 := Aside0.mk hb1
 have HK1 := Aside0.mk hk1
 replace hz := Aside0.mk hz
 clear hbk hown hb1 hk1 hck
 go_wp2_with (at_builtin; refine Lib.wpList_append_own_string _ rfl _ _ 59 9 rfl base 5 i0 Tryz.underlying59 Tryz.underlying9 hi hz0 hz1 hz2 _ _ _ rfl HO.out s rfl ?c3 ?c4 ?c5 ?_)
 case c3 => unfold maxLen; omega
 case c4 => omega
 case c5 => have := hz.out; omega
 intro v' w2 hown' hgrow _
 have hne : v.ownBlock ≠ some b := Lib.ownBlock_ne HO.out HB.out hT'.out.1
 have hb2 : w2.heap[b]? = some (.cells ((.pointer (some ⟨b, 0, none⟩)) :: v :: rest).toArray T (0, 0)) := by
  rw [hgrow.block b hlt (fun e => hne e.symm)]
  exact HB.out
 have d1 : w2.cell? ⟨b, 1, none⟩ = some v := by rw [Lib.cell_of_heap hb2]; rfl
 have f1 : w2.frozen? ⟨b, 1, none⟩ = false := Lib.frozen_of_heap hb2 1
 obtain ⟨ao, n', cap, rfl⟩ : ∃ ao n' cap, v' = .slice ao n' cap := by
  rcases hown'.2 with ⟨hv, _⟩ | ⟨g, cap, cur, hv, _⟩
  ·exact ⟨_, _, _, hv⟩
  ·exact ⟨_, _, _, hv⟩
 have hA := bld_put (xs := bs ++ Lib.strCells s) hT'.out.1 hB hb2 (by simpa [Lib.strCells_length] using hown')
 have hBel : Below base w (w2.setCell ⟨b, 1, none⟩ (.slice ao n' cap)) :=
  (HB1.out.grown hgrow (by have := hz.out; omega) (fun k hk => (HO.out.lt k hk).1)).setCell (p := ⟨b, 1, none⟩) hB _
 have hKp : Kp b w (w2.setCell ⟨b, 1, none⟩ (.slice ao n' cap)) :=
  (HK1.out.grown hgrow (own5_block HO.out)).setCell ⟨b, 1, none⟩ rfl _
 have HF := Aside0.mk (And.intro hA (And.intro hBel hKp))
 clear hA hBel hKp hown' hgrow hb2 c1
 go_wp2
 go_ret2
 exact ⟨rfl, HF.out⟩
theorem cells5 : Tryz.prog.cellsOf 5 = 1 := by kernel_rfl
set_option maxHeartbeats 2000000 in
set_option maxRecDepth 100000 in
/-- String, of a builder that holds a byte. -/
theorem string_calls {T : TypeId} {rest : List Value} {base b : Nat} {l : List UInt8} {w : World} (hT : Begins T rest.length) (h : Bld T rest base b (Lib.byteCells l) w) (h0 : l ≠ []) :
  Calls Tryz.prog 121 #[.pointer (some ⟨b, 0, none⟩)] w fun e w' => e = .returned (.string ⟨l.toArray⟩) ∧ Below base w w' ∧ Kp b w w' := by
 obtain ⟨hB, p, v, hp, hbk, hown⟩ := h
 have hl0 : l.length ≠ 0 := by simpa using h0
 rw [Lib.byteCells_length] at hown
 obtain ⟨g, cap, cur, rfl, hbg, hg, hnc, hcm, hcs, htake⟩ : ∃ g cap cur, v = .slice (some ⟨g, 0, none⟩) l.length cap ∧ base ≤ g ∧ w.heap[g]? = some (.cells cur 5 (0, 0)) ∧ l.length ≤ cap ∧ cap ≤ maxLen ∧ cur.size = cap * 1 ∧ cur.toList.take (l.length * 1) = Lib.byteCells l := by
  rcases hown.2 with ⟨_, hz⟩ | ⟨g, cap, cur, hv, r⟩
  ·exact absurd hz hl0
  ·exact ⟨g, cap, cur, hv, r⟩
 have c1 : w.drew.cell? ⟨b, 1, none⟩ = some (.slice (some ⟨g, 0, none⟩) l.length cap) := by
  have : w.drew.heap[b]? = some (.cells (p :: .slice (some ⟨g, 0, none⟩) l.length cap :: rest).toArray T (0, 0)) := hbk
  rw [Lib.cell_of_heap this]; rfl
 have hSD : (Builtin.unsafeSliceData_ #[59] 219 #[.slice (some ⟨g, 0, none⟩) l.length cap]).run Tryz.prog w.drew = .ok (.pointer (some ⟨g, 0, none⟩)) w.drew :=
  Lib.run_unsafeSliceData_row _ _ _ _ _ _ (by omega)
 have hUS : (Builtin.unsafeString_ #[219, 3] 9 #[.pointer (some ⟨g, 0, none⟩), .int .i64 l.length]).run Tryz.prog w.drew = .ok (.string ⟨l.toArray⟩) (w.drew.freeze ⟨g, 0, none⟩ l.length) := by
  refine Lib.run_unsafeString_row w.drew 219 3 9 5 Tryz.underlying219 cells5 g cur.size (by have hg' : w.drew.heap[g]? = some (.cells cur 5 (0, 0)) := hg; simp [World.shape?, hg']) l h0 (by omega) (by unfold maxLen at hcm; omega) ?_
  intro j x hx
  have := hown.cells (g := g) rfl j (.int .u8 x.toNat) (by simp [Lib.byteCells, hx])
  exact this
 have hfin : Below base w (w.drew.freeze ⟨g, 0, none⟩ l.length) ∧ Kp b w (w.drew.freeze ⟨g, 0, none⟩ l.length) :=
  ⟨Lib.below_freeze (Below.drew (Below.refl _ w)) (p := ⟨g, 0, none⟩) hbg _, ((Kp.refl _ w).drew).freeze ⟨g, 0, none⟩ _ ⟨cur, hg⟩⟩
 have HF := Aside0.mk hfin
 clear hfin htake hcs hcm hnc hg hbg hown hbk hp h0 hl0 hT
 go_enter Tryz.func121, Tryz.ntmps121
 go_wp2
 go_region
 all_goals (go_wp2; go_ret; exact ⟨rfl, HF.out⟩)
end Go.Proofs.YtofklpphalalhaaGreatDoor
end
section
namespace Go.Proofs.YtofklpphalalhaaGreatDoor
set_option linter.unusedVariables false
set_option linter.unusedSimpArgs false
open Go.RowKit Go.Proofs.YtofklpphalalhaaGreatDoor.PAll Go.Proofs.YtofklpphalalhaaGreatDoorW.PrintWords Go.Proofs.YtofklpphalalhaaGreatDoorW.PrintLast Go.Proofs.YtofklpphalalhaaGreatDoorW.PrintMore
theorem putInt_calls (n : Int) (w : World) : Calls Tryz.prog 119 #[.int .i64 n] w fun e w' => e = .returned (.string (Evs.S (Pk.putI n))) ∧ Below w.heap.size w w' := by
 obtain ⟨k, hk⟩ := (Evs.putInt n).rounds
 exact pack_PutInt.calls k n _ w hk
theorem putUint_calls (n : Int) (h : n < 9223372036854775808) (w : World) : Calls Tryz.prog 77 #[.int .i64 n] w fun e w' => e = .returned (.string (Evs.S (Pk.putUI n))) ∧ Below w.heap.size w w' := by
 obtain ⟨k, hk⟩ := (Evs.putUint n h).rounds
 exact pack_PutUint.calls k n _ w hk
theorem putText_calls (s : ByteArray) (h : s.size ≤ 140737488351232) (w : World) : Calls Tryz.prog 75 #[.string s] w fun e w' => e = .returned (.string (Evs.S (Pk.putT s.data.toList))) ∧ Below w.heap.size w w' := by
 obtain ⟨k, hk⟩ := (Evs.putText s h).rounds
 exact pack_PutText.calls k s _ w hk
namespace Pp
def ints (l : List Int) : List UInt8 := l.flatMap Pk.putI
def list (l : List Int) : List UInt8 := Pk.putUI l.length ++ ints l
theorem putI_len (n : Int) : (Pk.putI n).length ≤ 9 := by
 unfold Pk.putI
 split
 ·simp
 ·rename_i h
  refine Evs.putU_len9 _ (Nat.lt_of_lt_of_le (Evs.zig_lt n ?_ ?_) (by omega)) <;> omega
theorem putUI_len (n : Int) (h : n < 9223372036854775808) : (Pk.putUI n).length ≤ 9 := by
 unfold Pk.putUI
 split
 ·simp
 ·exact Evs.putU_len9 _ (by omega)
theorem ints_len (l : List Int) : (ints l).length ≤ 9 * l.length := by
  induction l with
  | nil => simp [ints]
  | cons x l ih =>
    have := putI_len x
    unfold ints at ih ⊢
    rw [List.flatMap_cons, List.length_append, List.length_cons]; omega
theorem ints_take (l : List Int) (k : Nat) (hk : k < l.length) : ints (l.take (k + 1)) = ints (l.take k) ++ Pk.putI (l.getD k 0) := by
 unfold ints
 rw [List.take_succ_eq_append_getElem hk, List.flatMap_append, List.getD_eq_getElem?_getD, List.getElem?_eq_getElem hk]
 simp
end Pp
/-- A writer: a builder that holds bytes. -/
def Wr (base b : Nat) (l : List UInt8) (w : World) : Prop := Bld 124 [] base b (Lib.byteCells l) w
section
variable {base b : Nat} {l : List UInt8} {w w' : World}
theorem Wr.below (h : Wr base b l w) (hb : Below w.heap.size w w') : Wr base b l w' := by
 obtain ⟨h1, p, v, hp, hk, ho⟩ := h
 exact ⟨h1, p, v, hp, (hb.block b (Array.getElem?_eq_some_iff.1 hk).1).trans hk, pw_own_below ho hb⟩
theorem Wr.drew (h : Wr base b l w) : Wr base b l w.drew := h
theorem Wr.base_le (h : Wr base b l w) : base ≤ w.heap.size := Bld.base_le h
end
theorem wr_write {base b : Nat} {l : List UInt8} {w : World} (h : Wr base b l w) (s : ByteArray) (hlen : (Lib.byteCells l).length + s.size ≤ 140737488355328) : Calls Tryz.prog 74 #[.pointer (some ⟨b, 0, none⟩), .string s] w fun e w' => e = .returned (.tuple #[.int .i64 s.size, .nilIface]) ∧ Bld 124 [] base b (Lib.byteCells l ++ Lib.strCells s) w' ∧ Below base w w' ∧ Kp b w w' := writeString_calls (T := 124) (rest := []) begins124 h s hlen
theorem Kp.of_below {b : Nat} {w w' : World} (h : Below w.heap.size w w') : Kp b w w' := fun k o hk _ _ => (h.block k (Array.getElem?_eq_some_iff.1 hk).1).trans hk
theorem below_size' {B : Nat} {w W : World} (h : Below B w W) (hb : B ≤ w.heap.size) : B ≤ W.heap.size := Nat.le_trans hb h.size
set_option maxRecDepth 100000 in
set_option maxHeartbeats 4000000 in
theorem ints_walk (base b : Nat) (l : List UInt8) (A : Option Addr) (c : Nat) (xs : List Int) (w : World) (hW : Wr base b l w) (hl : l.length + 9 * xs.length ≤ 70368744177664)
  (hC : ∀ w', Below base w w' → Kp b w w' → Kd.C (Kd.int .i64) w' A xs.length xs) :
  Calls Tryz.prog 76 #[.pointer (some ⟨b, 0, none⟩), .slice A xs.length c] w fun e w' => e = .returned (.tuple #[]) ∧ Wr base b (l ++ Pp.ints xs) w' ∧ Below base w w' ∧ Kp b w w' := by
 have HC := Aside0.mk hC
 have HW0 := Aside0.mk hW
 have HBS := Aside0.mk hW.base_le
 clear hC hW
 go_enter Tryz.func76, Tryz.ntmps76
 go_wp2_with fail
 go_loopw [8] (fun v wr => ∃ k : Nat, k ≤ xs.length ∧ v = .int .i64 k ∧ Wr base b (l ++ Pp.ints (xs.take k)) wr ∧ Below base w wr ∧ Kp b w wr) (fun v _ => xs.length - (intOf v).toNat)
 case atStart => exact ⟨0, Nat.zero_le _, rfl, by simpa [Pp.ints] using HW0.out, Below.refl _ _, Kp.refl _ _⟩
 case round =>
  obtain ⟨k, hk, rfl, hw, hb, hkp⟩ := hrel
  have HWR := Aside0.mk hw
  have HB := Aside0.mk hb
  have HK := Aside0.mk hkp
  clear hw hb hkp
  by_cases hlt : k < xs.length
  ·have hdl : (k : Int) < (xs.length : Int) := by omega
   obtain ⟨ad, e, x0⟩ := int_cell (HC.out _ HB.out HK.out) k hlt
   subst e
   have hnx := Pp.ints_take xs k hlt
   obtain ⟨x, hx⟩ : ∃ x, xs.getD k 0 = x := ⟨_, rfl⟩
   rw [hx] at x0 hnx
   have HNX := Aside0.mk hnx
   have hlw : Aside0 ((Lib.byteCells (l ++ Pp.ints (xs.take k))).length + (Evs.S (Pk.putI x)).size ≤ 140737488355328) := ⟨by
    rw [Lib.byteCells_length, List.length_append, Evs.S_size]
    have h1 := Pp.ints_len (xs.take k)
    have h2 := Pp.putI_len x
    rw [List.length_take] at h1
    omega⟩
   clear hx hnx
   go_wp2_with fail
   refine start_ (n := 6) (S := fun w' => True) (ds := []) #[false, false, false, false, false, false] (by kernel_rfl) rfl rfl trivial (fun hHeld => ?_)
   refine pz (i := 0) (N := some 12) (bz 6 1) ?_
   refine pz (i := 1) (N := some 13) (bz 6 3) ?_
   refine pz (i := 2) (N := some 14) (bz 6 7) ?_
   refine pz (i := 3) (N := some 15) (bz 6 15) ?_
   refine one_ (i := 4) (N := some 16) (bz 6 31) rfl rfl (by kernel_rfl) (by decide) (fun K hK => ?_)
   refine goes_ Tryz.func119 (by kernel_rfl) rfl #[.int .i64 x] (by rfl) rfl rfl (by simp only [List.map_toArray, List.map_cons, List.map_nil]; rfl) ?_
   with_reducible refine ((putInt_calls x _)).mono ?_
   rintro e W1 ⟨rfl, hb1⟩
   refine ⟨_, rfl, ?_⟩
   have HC1 : Aside0 (Wr base b (l ++ Pp.ints (xs.take k)) W1) := ⟨HWR.out.drew.below hb1⟩
   have HB1 : Aside0 (Below base w W1) := ⟨HB.out.drew.trans (hb1.mono (Nat.le_trans HBS.out HB.out.size))⟩
   have HK1 : Aside0 (Kp b w W1) := ⟨HK.out.drew.trans (Kp.of_below hb1)⟩
   clear hb1
   refine hK.out _ _ trivial (fun hHeld => ?_)
   clear hK K
   refine nz (N := some 16) ?_
   refine one_ (i := 5) (N := some 17) (bz 6 63) rfl rfl (by kernel_rfl) (by decide) (fun K hK => ?_)
   refine goes_ Tryz.func74 (by kernel_rfl) rfl #[.pointer (some ⟨b, 0, none⟩), .string (Evs.S (Pk.putI x))] (by rfl) rfl rfl (by simp only [List.map_toArray, List.map_cons, List.map_nil]; rfl) ?_
   with_reducible refine ((wr_write HC1.out (Evs.S (Pk.putI x)) hlw.out)).mono ?_
   rintro e W2 ⟨rfl, hw, hb2, hk2⟩
   refine ⟨_, rfl, ?_⟩
   have HW2 := Aside0.mk hw
   have HB2 := Aside0.mk hb2
   have HK2 := Aside0.mk hk2
   clear hw hb2 hk2
   refine hK.out _ _ trivial (fun hHeld => ?_)
   clear hK K
   refine nz (N := some 17) ?_
   refine done_ (by kernel_rfl) ?_
   have HW3 : Aside0 (Wr base b (l ++ Pp.ints (xs.take (k + 1))) W2) := ⟨by
    rw [HNX.out, ← List.append_assoc]
    have := HW2.out
    rw [Lib.strCells_eq, Evs.S_data, ← Lib.byteCells_append] at this
    exact this⟩
   have HB3 : Aside0 (Below base w W2) := ⟨HB1.out.trans HB2.out⟩
   have HK3 : Aside0 (Kp b w W2) := ⟨HK1.out.trans HK2.out⟩
   clear HW2 HB1 HB2 HK1 HK2 HC1 HNX hlw HWR HB HK
   go_wp2_with fail
   go_roundw
   case rel => exact ⟨k + 1, by omega, by go_num, HW3.out, HB3.out, HK3.out⟩
   case measure => simp [intOf]; omega
  ·have hdl : ¬ ((k : Int) < (xs.length : Int)) := by omega
   have hke : xs.take k = xs := List.take_of_length_le (by omega)
   rw [hke] at HWR
   have HF := Aside0.mk (And.intro HWR.out (And.intro HB.out HK.out))
   clear HWR HB HK hke
   go_wp2_with fail
   go_end0
   exact ⟨rfl, HF.out⟩
set_option maxRecDepth 100000 in
set_option maxHeartbeats 4000000 in
theorem list_walk (base b : Nat) (l : List UInt8) (A : Option Addr) (c : Nat) (xs : List Int) (w : World) (hW : Wr base b l w) (hl : l.length + 9 * xs.length + 9 ≤ 70368744177664)
  (hC : ∀ w', Below base w w' → Kp b w w' → Kd.C (Kd.int .i64) w' A xs.length xs) :
  Calls Tryz.prog 78 #[.pointer (some ⟨b, 0, none⟩), .slice A xs.length c] w fun e w' => e = .returned (.tuple #[]) ∧ Wr base b (l ++ Pp.list xs) w' ∧ Below base w w' ∧ Kp b w w' := by
 have HC := Aside0.mk hC
 have HWR := Aside0.mk hW
 have HBS := Aside0.mk hW.base_le
 have hlw : Aside0 ((Lib.byteCells l).length + (Evs.S (Pk.putUI xs.length)).size ≤ 140737488355328) := ⟨by
  rw [Lib.byteCells_length, Evs.S_size]
  have h2 := Pp.putUI_len xs.length (by omega)
  omega⟩
 clear hC hW
 go_enter Tryz.func78, Tryz.ntmps78
 go_wp2_with fail
 refine start_ (n := 7) (S := fun w' => True) (ds := []) #[false, false, false, false, false, false, false] (by kernel_rfl) rfl rfl trivial (fun hHeld => ?_)
 refine pz (i := 0) (N := some 4) (bz 7 1) ?_
 refine pz (i := 1) (N := some 5) (bz 7 3) ?_
 refine pz (i := 2) (N := some 6) (bz 7 7) ?_
 refine pz (i := 3) (N := some 7) (bz 7 15) ?_
 refine pz (i := 4) (N := some 8) (bz 7 31) ?_
 refine one_ (i := 5) (N := some 9) (bz 7 63) rfl rfl (by kernel_rfl) (by decide) (fun K hK => ?_)
 refine goes_ Tryz.func77 (by kernel_rfl) rfl #[.int .i64 xs.length] (by rfl) rfl rfl (by simp only [List.map_toArray, List.map_cons, List.map_nil]; rfl) ?_
 with_reducible refine ((putUint_calls xs.length (by omega) _)).mono ?_
 rintro e W1 ⟨rfl, hb1⟩
 refine ⟨_, rfl, ?_⟩
 have HC1 : Aside0 (Wr base b l W1) := ⟨HWR.out.drew.below hb1⟩
 have HB1 : Aside0 (Below base w W1) := ⟨((Below.refl base w).drew).trans (hb1.mono HBS.out)⟩
 have HK1 : Aside0 (Kp b w W1) := ⟨(Kp.refl b w).drew.trans (Kp.of_below hb1)⟩
 clear hb1
 refine hK.out _ _ trivial (fun hHeld => ?_)
 clear hK K
 refine nz (N := some 9) ?_
 refine one_ (i := 6) (N := some 10) (bz 7 127) rfl rfl (by kernel_rfl) (by decide) (fun K hK => ?_)
 refine goes_ Tryz.func74 (by kernel_rfl) rfl #[.pointer (some ⟨b, 0, none⟩), .string (Evs.S (Pk.putUI xs.length))] (by rfl) rfl rfl (by simp only [List.map_toArray, List.map_cons, List.map_nil]; rfl) ?_
 with_reducible refine ((wr_write HC1.out (Evs.S (Pk.putUI xs.length)) hlw.out)).mono ?_
 rintro e W2 ⟨rfl, hw, hb2, hk2⟩
 refine ⟨_, rfl, ?_⟩
 have HW2 := Aside0.mk hw
 have HB2 := Aside0.mk hb2
 have HK2 := Aside0.mk hk2
 clear hw hb2 hk2
 refine hK.out _ _ trivial (fun hHeld => ?_)
 clear hK K
 refine nz (N := some 10) ?_
 refine done_ (by kernel_rfl) ?_
 have HW3 : Aside0 (Wr base b (l ++ Pk.putUI xs.length) W2) := ⟨by
  have := HW2.out
  rw [Lib.strCells_eq, Evs.S_data, ← Lib.byteCells_append] at this
  exact this⟩
 have HB3 : Aside0 (Below base w W2) := ⟨HB1.out.trans HB2.out⟩
 have HK3 : Aside0 (Kp b w W2) := ⟨HK1.out.trans HK2.out⟩
 have hin := ints_walk base b (l ++ Pk.putUI xs.length) A c xs W2 HW3.out (by
  have h2 := Pp.putUI_len xs.length (by omega)
  rw [List.length_append]; omega) (fun w' h1 h2 => HC.out w' (HB3.out.trans h1) (HK3.out.trans h2))
 have HIN := Aside0.mk hin
 clear hin HW2 HB1 HB2 HK1 HK2 HC1 hlw HWR
 go_wp2_with fail
 refine HIN.out.mono ?_
 rintro e w' ⟨rfl, hw, hb, hk⟩
 have HF := Aside0.mk (And.intro hw (And.intro (HB3.out.trans hb) (HK3.out.trans hk)))
 clear hw hb hk
 go_wp2_with fail
 go_end0
 exact ⟨rfl, by unfold Pp.list; rw [← List.append_assoc]; exact HF.out.1, HF.out.2⟩
set_option maxRecDepth 100000 in
set_option maxHeartbeats 4000000 in
theorem begun_walk (kind : UInt8) (w : World) : Calls Tryz.prog 73 #[.int .u8 kind.toNat] w fun e w' => e = .returned (.pointer (some ⟨w.heap.size, 0, none⟩)) ∧ Wr w.heap.size w.heap.size [69, 80, 84, kind] w' ∧ Below w.heap.size w w' := by
 have h0 : Wr w.heap.size w.heap.size [] (w.alloc (.cells #[.pointer none, .slice none 0 0] 124)) := ⟨Nat.le_refl _, _, _, .inl rfl, Array.getElem?_push_size, World.ownsRow_nil _ _ _ _⟩
 have HS := Aside0.mk (writeString_calls begins124 h0 ⟨#[69, 80, 84]⟩ (by decide))
 clear h0
 go_enter Tryz.func73, Tryz.ntmps73
 go_wp2_with fail
 refine HS.out.mono ?_
 rintro e W1 ⟨rfl, hw1, hb1, hk1⟩
 have HB1 : Aside0 (Below w.heap.size w W1) := ⟨(below_one w _).trans hb1⟩
 have hwb := writeByte_calls begins124 hw1 (by decide) kind.toNat
 have HWB := Aside0.mk hwb
 clear hwb hw1 hb1 hk1 HS
 go_wp2_with fail
 refine HWB.out.mono ?_
 rintro e W2 ⟨rfl, hw2, hb2, hk2⟩
 have HF := Aside0.mk (And.intro hw2 (HB1.out.trans hb2))
 clear hw2 hb2 hk2 HWB HB1
 go_wp2_with fail
 go_ret
 exact ⟨rfl, HF.out.1, HF.out.2⟩
set_option maxRecDepth 100000 in
set_option maxHeartbeats 4000000 in
theorem sealed_walk (base b : Nat) (l : List UInt8) (w : World) (hW : Wr base b l w) (h0 : l ≠ []) (hl : l.length ≤ 70368744177664) (HT : ∀ w', Below base w w' → Tab w') :
  Calls Tryz.prog 79 #[.pointer (some ⟨b, 0, none⟩)] w fun e w' => e = .returned (.string (Evs.S (Pk.shut l))) ∧ Below base w w' := by
 have HS := Aside0.mk (string_calls begins124 hW h0)
 have HBS := Aside0.mk hW.base_le
 clear hW
 go_enter Tryz.func79, Tryz.ntmps79
 go_wp2_with fail
 refine HS.out.mono ?_
 rintro e W1 ⟨rfl, hb1, hk1⟩
 have hsl := pack_Seal.calls ⟨l.toArray⟩ (Evs.S (Pk.shut l)) W1 (HT W1 hb1) (by
  have := Evs.sealed ⟨l.toArray⟩ (by have e : (⟨l.toArray⟩ : ByteArray).size = l.length := Evs.S_size l; omega)
  exact this)
 have HSL := Aside0.mk hsl
 have HB1 := Aside0.mk hb1
 clear hsl hb1 hk1 HS
 go_wp2_with fail
 refine HSL.out.mono ?_
 rintro e W2 ⟨rfl, hb2⟩
 have HF := Aside0.mk (HB1.out.trans (hb2.mono (below_size' HB1.out HBS.out)))
 clear hb2 HSL HB1
 go_wp2_with fail
 go_ret
 exact ⟨rfl, HF.out⟩
end Go.Proofs.YtofklpphalalhaaGreatDoor
end
