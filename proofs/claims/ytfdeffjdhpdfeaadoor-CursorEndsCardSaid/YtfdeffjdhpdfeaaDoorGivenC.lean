/- Lines, Rows, Place of cursor, walked by hand over the line iterator. Conditions: texts of at most 1000000000 bytes. -/
import Derived.Test.YtfdeffjdhpdfeaaDoorGivenB
import Derived.RangeFuncBox
import Derived.Maps.AppendAt
import Derived.Maps.OwnIn
namespace Go.Proofs.YtfdeffjdhpdfeaaDoor
set_option linter.unusedVariables false
set_option linter.unusedSimpArgs false
open Go.RowKit Go.Shelf
open Go.Proofs.YtfdeffjdhpdfeaaDoorW.PrintWords Go.Proofs.YtfdeffjdhpdfeaaDoorW.PrintLast
open Go.Proofs.YtfdeffjdhpdfeaaDoor.PAll
attribute [local go_sem] Oper.semAt_some

theorem ln_len (l : List UInt8) : ∀ f a cr, (Cur.ln f a cr l).length ≤ l.length + (if f < a then 1 else 0) := by
  induction l with
  | nil => intro f a cr; simp only [Cur.ln]; split <;> simp
  | cons c l ih =>
    intro f a cr
    simp only [Cur.ln]
    split
    · have := ih (a + 1) (a + 1) false
      rw [if_neg (Nat.lt_irrefl _)] at this
      rw [List.length_cons, List.length_cons]
      omega
    · have := ih f (a + 1) (c == 13)
      rw [List.length_cons]
      refine Nat.le_trans this ?_
      split <;> split <;> omega
theorem lines_len (l : List UInt8) : (Cur.lines l).length ≤ l.length := by
  have := ln_len l 0 0 false
  rwa [if_neg (Nat.lt_irrefl _)] at this

def toS (x : Cur.Ln) : S31 := ⟨x.f, x.t, x.n⟩
def cellsL (x : Cur.Ln) : List Value := [.int .i64 x.f, .int .i64 x.t, .int .i64 x.n]
def flat (xs : List Cur.Ln) : List Value := xs.flatMap cellsL
theorem flat_snoc (xs : List Cur.Ln) (x : Cur.Ln) : flat (xs ++ [x]) = flat xs ++ cellsL x := by simp [flat]
theorem reps_flat (w : World) (base : Nat) (ok : Nat → Prop) (xs : List Cur.Ln) : Reps (k31.M w base ok) 3 (xs.map toS) (flat xs) := by
  suffices h : ∀ (ys xs : List Cur.Ln), Reps (k31.M w base ok) 3 (ys.map toS) (flat ys) → Reps (k31.M w base ok) 3 ((ys ++ xs).map toS) (flat (ys ++ xs)) from h [] xs (Reps.none _ _)
  intro ys xs
  induction xs generalizing ys with
  | nil => intro h; rwa [List.append_nil]
  | cons x xs ih =>
    intro h
    have := ih (ys ++ [x]) (by
      rw [List.map_append, flat_snoc]
      exact h.snoc (k31_mkM w base ok (toS x)) rfl)
    rwa [List.append_assoc] at this

set_option maxHeartbeats 1000000 in
theorem lines_in (s : ByteArray) (n : Nat) (w : World) :
    CallsIn Fence.wide n Tryd.prog 22 #[.string s] w fun e w' => e = .returned (.func (.func 25) #[] #[.pointer (some ⟨w.heap.size, 0, none⟩)]) ∧ w' = w.alloc (.cells #[.string s] 9) := by
  refine callsIn_of_wp Tryd.func22 rfl trivial ?_ rfl
  simp only [Tryd.ntmps22, List.size_toArray, List.length_cons, List.length_nil, Nat.reduceAdd, Nat.reduceSub, Array.replicate_succ, Array.replicate_zero, List.push_toArray, List.append_toArray, List.nil_append, List.cons_append]
  gi_wp2
  go_ret
  exact ⟨rfl, rfl⟩

/-- The iterator's contract; each line is known to be as P says. -/
theorem lines_stops (n : Nat) (hn : 1 ≤ n) (Bs B : Nat) (Xs : List Nat) (s : ByteArray) (hs : s.size ≤ 140737488351232) (P : Cur.Ln → Prop) (hP : ∀ x ∈ Cur.lines s.data.toList, P x) (w : World)
    (hBs : Boxed w Bs 9 (.string s)) (hB : B < w.heap.size) (hX : ∀ k ∈ Xs, k < w.heap.size) (hXs : Bs ∉ Xs) (hown : ∀ v k, w.cell? ⟨B, 0, none⟩ = some v → v.ownBlock = some k → k < w.heap.size ∧ k ≠ Bs) :
    SeqStopsK Fence.wide n Tryd.prog 25 #[.pointer (some ⟨Bs, 0, none⟩)] (fun x : { x : Cur.Ln // P x } => encL x.1) (Kept Xs B) (fun ys => ys.map (·.1) = Cur.lines s.data.toList) (fun pre => pre.map (·.1) <+: Cur.lines s.data.toList) (Cur.lines s.data.toList).length w := fun l J Jx W hW hJ _ hY h0 => by
  refine (iter_in n hn l Bs B Xs s hs (fun ys W => ∃ zs : List { x : Cur.Ln // P x }, zs.map (·.1) = ys ∧ J zs W) (fun ys W => ∃ zs : List { x : Cur.Ln // P x }, zs.map (·.1) = ys ∧ Jx zs W) W ?_ ?_
    ((hW.block Bs hBs.lt).trans hBs) (Nat.lt_of_lt_of_le hB hW.size) (fun k hk => Nat.lt_of_lt_of_le (hX k hk) hW.size) hXs ?_ ⟨[], rfl, h0⟩).mono ?_
  · rintro ys A C row ⟨zs, hz, hj⟩ hg hr
    exact ⟨zs, hz, hJ zs A C row hj hg hr⟩
  · rintro pre x W1 ⟨zs, rfl, hj⟩ hpre
    have hx : P x := hP x (hpre.subset (by simp))
    have hlen := hpre.length_le
    rw [List.length_append, List.length_map] at hlen
    obtain ⟨fn, tmps, assign, body, hy, hR⟩ := hY zs ⟨x, hx⟩ W1 hj (by simp at hlen; omega)
    refine ⟨fn, tmps, assign, body, hy, hR.mono ?_⟩
    rintro e W' (⟨he, hj', hk⟩ | ⟨he, hj'⟩)
    · exact .inl ⟨he, ⟨_, by simp, hj'⟩, hk⟩
    · exact .inr ⟨he, ⟨_, by simp, hj'⟩⟩
  · intro v k hv e
    rw [hW.cell (p := ⟨B, 0, none⟩) hB] at hv
    obtain ⟨h1, h2⟩ := hown v k hv e
    exact ⟨Nat.lt_of_lt_of_le h1 hW.size, h2⟩
  · rintro e W' ⟨hv, ⟨ys, rfl, zs, hz, hj⟩ | ⟨pre, hpre, zs, rfl, hj⟩⟩
    · exact ⟨hv, .inl ⟨zs, hz, hj⟩⟩
    · exact ⟨hv, .inr ⟨zs, hpre, hj⟩⟩
/-- What is known of each line. -/
def InText (s : ByteArray) (x : Cur.Ln) : Prop := x.f ≤ x.t ∧ x.t ≤ x.n ∧ x.f < x.n ∧ x.n ≤ s.size
theorem chain_in (l : List UInt8) : ∀ (xs : List Cur.Ln) (a i : Nat), Cur.chain l a i xs → ∀ x ∈ xs, x.f ≤ x.t ∧ x.t ≤ x.n ∧ x.f < x.n ∧ x.n ≤ l.length
  | [], _, _, _, x, hx => by simp at hx
  | y :: ys, a, i, h, x, hx => by
    obtain ⟨_, h2, h3, _, h5, h6, _, _, h9⟩ := h
    rcases List.mem_cons.1 hx with rfl | hx
    · exact ⟨h2, h3, h5, h6⟩
    · exact chain_in l ys _ _ h9 x hx
theorem lines_in_text (s : ByteArray) : ∀ x ∈ Cur.lines s.data.toList, InText s x := chain_in _ _ 0 0 (Cur.chain_lines _)
abbrev LnIn (s : ByteArray) := { x : Cur.Ln // InText s x }
def un {s : ByteArray} (xs : List (LnIn s)) : List Cur.Ln := xs.map (·.1)
theorem un_snoc {s : ByteArray} (xs : List (LnIn s)) (x : LnIn s) : un (xs ++ [x]) = un xs ++ [x.1] := by simp [un]
theorem un_len {s : ByteArray} (xs : List (LnIn s)) : (un xs).length = xs.length := by simp [un]

/-- A store of one value into a box of the loop's own; the slice in box B (if it is B) is the row that lay there, or a new one. -/
theorem Kept.put {Xs : List Nat} {B : Nat} {W w1 : World} {o : Obj} {row : Option Nat} (hg : (W.alloc o).grownBy w1 row) (hB : B < W.heap.size) (hX : B ∈ Xs) (t : TypeId) (v v' : Value) (hv : Boxed W B t v) (hrow : row = v.ownBlock) (hb1 : Boxed w1 B t v)
    (hat : v'.ownBlock = v.ownBlock ∨ v'.ownBlock = some (W.alloc o).heap.size) (hlt : ∀ k, v'.ownBlock = some k → k < w1.heap.size) : Kept Xs B W (w1.setCell ⟨B, 0, none⟩ v') := by
  have hsz := hg.size
  rw [World.size_alloc] at hsz hat
  have hz : (w1.setCell ⟨B, 0, none⟩ v').heap.size = w1.heap.size := by simp
  refine ⟨by rw [hz]; omega, fun k o' hk ho hkX hn => ?_, fun k u hu e => ?_⟩
  · have hkW := (Array.getElem?_eq_some_iff.1 hk).1
    have hkB : k ≠ B := fun e => hkX (e ▸ hX)
    rw [Below.heap_setCell _ _ _ k hkB]
    rw [hg.block k (by rw [World.size_alloc]; omega) (fun e => hn v hv.cell (by rw [← hrow, ← e]))]
    exact (Go.heap_alloc_old W o k hkW).trans hk
  · rw [(hb1.set v').cell] at hu
    cases hu
    rcases hat with h | h
    · exact .inl ⟨v, hv.cell, by rw [← h]; exact e⟩
    · rw [h] at e
      injection e with e
      have := hlt k (by rw [h, e])
      exact .inr ⟨by omega, by rw [hz]; exact this⟩

theorem own_is {W : World} {base : Nat} {e : TypeId} {size : Nat} {v : Value} {k : Nat} {xs : List Value} (h : W.ownsRow base e size v k xs) : ∃ p c, v = .slice p k c := by
  rcases h.2 with ⟨rfl, rfl⟩ | ⟨g, cap, _, rfl, _⟩
  · exact ⟨none, 0, rfl⟩
  · exact ⟨_, _, rfl⟩
theorem info31 : (Tryd.prog.info? 31).map (fun i => (i.zero, i.size, i.bytes)) = some (some (.agg #[(.int .i64 0), (.int .i64 0), (.int .i64 0)]), 3, 24) := by kernel_rfl
theorem new_cells (w : World) (x : Cur.Ln) : ∀ j u, (cellsL x)[j]? = some u → (w.alloc (.cells #[.int .i64 x.f, .int .i64 x.t, .int .i64 x.n] 31)).cell? ((⟨w.heap.size, 0, none⟩ : Addr).add j) = some u := by
  intro j u hj
  have h := World.alloc_heap_new w (.cells #[.int .i64 x.f, .int .i64 x.t, .int .i64 x.n] 31)
  match j, hj with
  | 0, hj => simp [cellsL] at hj; subst hj; show World.cell? _ ⟨w.heap.size, _, none⟩ = _; unfold World.cell?; rw [h]; rfl
  | 1, hj => simp [cellsL] at hj; subst hj; show World.cell? _ ⟨w.heap.size, _, none⟩ = _; unfold World.cell?; rw [h]; rfl
  | 2, hj => simp [cellsL] at hj; subst hj; show World.cell? _ ⟨w.heap.size, _, none⟩ = _; unfold World.cell?; rw [h]; rfl
  | j + 3, hj => simp [cellsL] at hj
theorem ownFrom_size {β : Type} (n m : Nat) : OwnFrom (β := β) n (fun _ W => m < W.heap.size) := fun _ _ _ _ hs hg _ => Nat.lt_of_lt_of_le hs hg.size
/-- A line's own block. -/
def LnAt (W : World) (B : Nat) (x : Cur.Ln) : Prop := W.heap[B]? = some (.cells #[.int .i64 x.f, .int .i64 x.t, .int .i64 x.n] 31 (0, 0))
theorem LnAt.cells {W : World} {B : Nat} {x : Cur.Ln} (h : LnAt W B x) : W.cell? ⟨B, 0, none⟩ = some (.int .i64 x.f) ∧ W.cell? ⟨B, 1, none⟩ = some (.int .i64 x.t) ∧ W.cell? ⟨B, 2, none⟩ = some (.int .i64 x.n) := by
  unfold LnAt at h
  refine ⟨?_, ?_, ?_⟩ <;> simp [World.cell?, h]
theorem LnAt.own {W W' : World} {B : Nat} {x : Cur.Ln} (h : LnAt W B x) {row : Option Nat} (hg : W.grownBy W' row) (hr : ∀ r, row = some r → ∃ o : Obj, W.heap[r]? = some o ∧ o.isCells = false) : LnAt W' B x :=
  (hg.block B (Array.getElem?_eq_some_iff.1 h).1 (fun e => by
    obtain ⟨o, ho, hc⟩ := hr B e.symm
    rw [show W.heap[B]? = _ from h] at ho; cases ho; cases hc)).trans h

set_option maxRecDepth 100000 in
set_option maxHeartbeats 2000000 in
theorem Lines_in (n : Nat) (hn : 3 ≤ n) (s : ByteArray) (hs : s.size ≤ 1000000000) (w : World) :
    CallsIn Fence.wide n Tryd.prog 10 #[.string s] w fun e W' => ∃ v, e = .returned v ∧ W'.ownsRow w.heap.size 31 3 v (Cur.lines s.data.toList).length (flat (Cur.lines s.data.toList)) ∧ Below w.heap.size w W' := by
  have h1 : 1 ≤ n := by omega
  have hll := lines_len s.data.toList
  have hsl : s.data.toList.length = s.size := rfl
  obtain ⟨i0, hi, hz0, hz1, hz2⟩ := info_parts info31
  refine callsIn_of_wp_marks Tryd.func10 rfl trivial ?_ rfl
  simp only [Tryd.ntmps10, List.size_toArray, List.length_cons, List.length_nil, Nat.reduceAdd, Nat.reduceSub, Array.replicate_succ, Array.replicate_zero, List.push_toArray, List.append_toArray, List.nil_append, List.cons_append]
  gi_wp2_with (refine ⟨trivial, ?_⟩; gi_at_call 22; refine (lines_in s _ _).mono ?_; rintro e w' ⟨rfl, rfl⟩)
  have bO := (Boxed.new w 23 (.slice none 0 0)).alloc (.cells #[.string s] 9)
  have bS := Boxed.new (w.alloc (.cells #[.slice none 0 0] 23)) 9 (.string s)
  rw [World.size_alloc] at bS
  have hB0 : Below w.heap.size w ((w.alloc (.cells #[.slice none 0 0] 23)).alloc (.cells #[.string s] 9)) := ((Below.refl _ w).alloc (Nat.le_refl _) _).alloc (by simp) _
  have hsz : ((w.alloc (.cells #[.slice none 0 0] 23)).alloc (.cells #[.string s] 9)).heap.size = w.heap.size + 2 := by simp
  obtain ⟨W0, hW0⟩ : ∃ W0, (w.alloc (.cells #[.slice none 0 0] 23)).alloc (.cells #[.string s] 9) = W0 := ⟨_, rfl⟩
  rw [hW0] at bO bS hB0 hsz ⊢
  clear hW0
  refine wpIn_rangeFunc_ownH rfl h1 (gf := 25) (lb := #[.pointer (some ⟨w.heap.size + 1, 0, none⟩)]) rfl trivial (enters_of Tryd.func25 (by kernel_rfl) rfl)
    (lines_stops (n - 1) (by omega) (w.heap.size + 1) w.heap.size [w.heap.size] s (by omega) (InText s) (lines_in_text s) W0 bS (by omega) (fun k hk => by simp at hk; omega) (by simp) (fun v k hv e => by rw [bO.cell] at hv; cases hv; cases e))
    Kept.trans (Kept.b (by omega)) (Below.refl _ _) (fun _ => rfl)
    (fun pre W => ((∃ v, Boxed W w.heap.size 23 v ∧ W.ownsRow w.heap.size 31 3 v (un pre).length (flat (un pre)) ∧ True) ∧ Below w.heap.size w W) ∧ w.heap.size + 1 < W.heap.size)
    (fun _ _ _ => False)
    (OwnFrom.and (OwnFrom.and (Own.from (holdsRow_own w.heap.size w.heap.size 23 31 3 (fun pre : List (LnIn s) => (un pre).length) (fun pre => flat (un pre)) (fun _ _ => True)) _) (ownFrom_below (Nat.le_refl _) (by omega))) (ownFrom_size _ _))
    (fun _ _ _ _ _ hs _ _ => hs)
    ⟨⟨⟨_, bO, World.ownsRow_nil _ _ _ _, trivial⟩, hB0⟩, by omega⟩
    (fun x a' W => ∃ Bx, w.heap.size + 1 < Bx ∧ LnAt W Bx x.1 ∧ a' = { tmps := #[.string s, undef, .pointer (some ⟨w.heap.size, 0, none⟩), .pointer (some ⟨Bx, 0, none⟩), .string s, .func (.func 25) #[] #[.pointer (some ⟨w.heap.size + 1, 0, none⟩)], .agg #[.int .i64 x.1.f, .int .i64 x.1.t, .int .i64 x.1.n], undef, undef, undef, undef, undef], defers := [] })
    (fun x a' _ X Y row hs hg hr => by obtain ⟨Bx, h1, h2, h3⟩ := hs; exact ⟨Bx, h1, h2.own hg (fun r e => (hr r e).2), h3⟩)
    ?assign ?body ?done ?stop
  case assign =>
    rintro l pre x W K ⟨⟨⟨v, hv, hrow, _⟩, hB⟩, hW2⟩ hK
    have hltv := hv.lt
    dsimp only [encL]
    gi_wp2
    exact hK _ _ ((KeepsOthers.alloc _ _).from _) (Kept.alloc W hv.lt _) ⟨⟨⟨v, hv.alloc _, hrow.alloc _, trivial⟩, hB.alloc hB.size _⟩, by rw [World.size_alloc]; omega⟩ ⟨W.heap.size, hW2, World.alloc_heap_new W _, rfl⟩
  case body =>
    rintro l pre x a' W hl ⟨r, hr⟩ ⟨⟨⟨v, hv, hrow, _⟩, hB⟩, hW2⟩ ⟨Bx, hBx, hX, rfl⟩ hlt
    have hul : Aside0 ((un pre).length = pre.length) := ⟨un_len pre⟩
    have hc := hv.cell
    obtain ⟨x0, x1, x2⟩ := hX.cells
    gi_wp2_with (gi_at_builtin; refine wpListIn_append_own_at _ rfl _ _ 23 rfl w.heap.size 31 i0 (.agg #[.int .i64 0, .int .i64 0, .int .i64 0]) 3 24 Tryd.underlying23 hi hz0 hz1 hz2 rfl (by decide) _ _ _ rfl (hrow.alloc _) ⟨W.heap.size, 0, none⟩ 1 1 (cellsL x.1) rfl rfl (new_cells W x.1) (by simp [cellsL, Value.oneCell']) (by have := hul.out; simp only [maxLen]; omega) (by have := hul.out; omega) (by have := hB.size; simp; omega) ?_; intro v' w1 hown' hgrow _ hat; obtain ⟨g', cap', rfl⟩ := ownsRow_succ hown'; obtain ⟨hv1, hv2, hr2, hk2, hb2⟩ := hv.appended (by decide) hrow hB.size (Nat.le_refl _) hown' hgrow; have hc1 := hv1.cell; have hf1 := hv1.frozen)
    refine ⟨hk2.from _, Kept.put hgrow hv.lt (by simp) 23 v _ hv rfl hv1 hat (fun k e => own_lt hown' k e), ⟨⟨_, hv2, ?_, trivial⟩, hB.trans hb2⟩, ?_⟩
    · rw [un_snoc, flat_snoc, List.length_append]; exact hr2
    · have := hb2.size; omega
  case done =>
    rintro D ys W hD hys ⟨⟨⟨v, hv, hrow, _⟩, hB⟩, hW2⟩ hK
    rw [show un ys = _ from hys] at hrow
    obtain ⟨p, c, rfl⟩ := own_is hrow
    have hc := hv.cell
    have hf := hv.frozen
    gi_wp2
    have hK' := (KeepsOthers.setCell W ⟨w.heap.size, 0, none⟩ (.slice p (Cur.lines s.data.toList).length c)).same D _ hK rfl
    refine ⟨by simp, .inl ⟨_, _, rfl, run_takeDeferred hK', ?_⟩⟩
    have hv2 := hv.set (.slice p (Cur.lines s.data.toList).length c)
    have hrow2 := hrow.kept (grownBy_setCell' W w.heap.size (.slice p (Cur.lines s.data.toList).length c)) (.inr (hv.not_row (by decide) hrow).symm)
    have hc5 := cell_kept hv2.cell (grownBy_putObj' _ D (.deferred none)) (fun r e => by cases e; exact ⟨_, hK', rfl⟩)
    refine ⟨_, ?_, _, rfl, ownsRow_putObj hrow2 _ hK' rfl, (hB.setCell (p := ⟨w.heap.size, 0, none⟩) (Nat.le_refl _) _).trans (belowK_b (w := w) (Nat.le_refl _) _ D _ _ (by omega) hK' rfl rfl)⟩
    simp [results, Tryd.f10, go_sem, hc5]
  case stop =>
    rintro D c pre W _ _ h _
    exact h.elim

theorem grown_of_below {W W' : World} (h : Below W.heap.size W W') : W.grownBy W' none := ⟨h.os, h.tape, h.output, h.size, fun k hk _ => h.block k hk⟩
def rw_ (s : ByteArray) (xs : List Cur.Ln) : List Cur.Ln := xs.filter fun x => !Cur.blank s.data.toList x.f x.t
theorem own_not_none (v : Value) : v.ownBlock = none ∨ v.ownBlock ≠ none := by cases v.ownBlock <;> simp
theorem rw_hit (s : ByteArray) (xs : List Cur.Ln) (x : Cur.Ln) (h : Cur.blank s.data.toList x.f x.t = false) : rw_ s (xs ++ [x]) = rw_ s xs ++ [x] := by simp [rw_, h]
theorem rw_miss (s : ByteArray) (xs : List Cur.Ln) (x : Cur.Ln) (h : Cur.blank s.data.toList x.f x.t = true) : rw_ s (xs ++ [x]) = rw_ s xs := by simp [rw_, h]
theorem rw_len (s : ByteArray) (xs : List Cur.Ln) : (rw_ s xs).length ≤ xs.length := List.length_filter_le _ _
theorem Boxed.below {W W' : World} {B : Nat} {t : TypeId} {v : Value} (h : Boxed W B t v) (hb : Below W.heap.size W W') : Boxed W' B t v := (hb.block B h.lt).trans h
theorem LnAt.below {W W' : World} {B : Nat} {x : Cur.Ln} (h : LnAt W B x) (hb : Below W.heap.size W W') : LnAt W' B x := (hb.block B (Array.getElem?_eq_some_iff.1 h).1).trans h

set_option maxRecDepth 100000 in
set_option maxHeartbeats 2000000 in
theorem Rows_in (n : Nat) (hn : 6 ≤ n) (s : ByteArray) (hs : s.size ≤ 1000000000) (w : World) :
    CallsIn Fence.wide n Tryd.prog 14 #[.string s] w fun e W' => ∃ v, e = .returned v ∧ W'.ownsRow w.heap.size 31 3 v (rw_ s (Cur.lines s.data.toList)).length (flat (rw_ s (Cur.lines s.data.toList))) ∧ Below w.heap.size w W' := by
  have h1 : 1 ≤ n := by omega
  have hll := lines_len s.data.toList
  have hsl : s.data.toList.length = s.size := rfl
  obtain ⟨i0, hi, hz0, hz1, hz2⟩ := info_parts info31
  refine callsIn_of_wp_marks Tryd.func14 rfl trivial ?_ rfl
  simp only [Tryd.ntmps14, List.size_toArray, List.length_cons, List.length_nil, Nat.reduceAdd, Nat.reduceSub, Array.replicate_succ, Array.replicate_zero, List.push_toArray, List.append_toArray, List.nil_append, List.cons_append]
  gi_wp2_with (refine ⟨trivial, ?_⟩; gi_at_call 22; refine (lines_in s _ _).mono ?_; rintro e w' ⟨rfl, rfl⟩)
  have bA := ((Boxed.new w 9 (.string s)).alloc (.cells #[.slice none 0 0] 23)).alloc (.cells #[.string s] 9)
  have bO := (Boxed.new (w.alloc (.cells #[.string s] 9)) 23 (.slice none 0 0)).alloc (.cells #[.string s] 9)
  have bS := Boxed.new ((w.alloc (.cells #[.string s] 9)).alloc (.cells #[.slice none 0 0] 23)) 9 (.string s)
  simp only [World.size_alloc] at bS bO
  have hB0 : Below w.heap.size w (((w.alloc (.cells #[.string s] 9)).alloc (.cells #[.slice none 0 0] 23)).alloc (.cells #[.string s] 9)) := (((Below.refl _ w).alloc (Nat.le_refl _) _).alloc (by simp) _).alloc (by simp; omega) _
  have hsz : (((w.alloc (.cells #[.string s] 9)).alloc (.cells #[.slice none 0 0] 23)).alloc (.cells #[.string s] 9)).heap.size = w.heap.size + 3 := by simp
  obtain ⟨W0, hW0⟩ : ∃ W0, ((w.alloc (.cells #[.string s] 9)).alloc (.cells #[.slice none 0 0] 23)).alloc (.cells #[.string s] 9) = W0 := ⟨_, rfl⟩
  rw [hW0] at bA bO bS hB0 hsz ⊢
  clear hW0
  refine wpIn_rangeFunc_ownH rfl h1 (gf := 25) (lb := #[.pointer (some ⟨w.heap.size + 1 + 1, 0, none⟩)]) rfl trivial (enters_of Tryd.func25 (by kernel_rfl) rfl)
    (lines_stops (n - 1) (by omega) (w.heap.size + 1 + 1) (w.heap.size + 1) [w.heap.size + 1] s (by omega) (InText s) (lines_in_text s) W0 bS (by omega) (fun k hk => by simp at hk; omega) (by simp) (fun v k hv e => by rw [bO.cell] at hv; cases hv; cases e))
    Kept.trans (Kept.b (by omega)) (Below.refl _ _) (fun _ => rfl)
    (fun pre W => (((∃ v, Boxed W (w.heap.size + 1) 23 v ∧ W.ownsRow w.heap.size 31 3 v (rw_ s (un pre)).length (flat (rw_ s (un pre))) ∧ True) ∧ Boxed W w.heap.size 9 (.string s)) ∧ Below w.heap.size w W) ∧ w.heap.size + 1 < W.heap.size)
    (fun _ _ _ => False)
    (OwnFrom.and (OwnFrom.and (OwnFrom.and (Own.from (holdsRow_own w.heap.size (w.heap.size + 1) 23 31 3 (fun pre : List (LnIn s) => (rw_ s (un pre)).length) (fun pre => flat (rw_ s (un pre))) (fun _ _ => True)) _) (Own.from (boxed_own _ _ _) _)) (ownFrom_below (Nat.le_refl _) (by omega))) (ownFrom_size _ _))
    (fun _ _ _ _ _ hs _ _ => hs)
    ⟨⟨⟨⟨_, bO, World.ownsRow_nil _ _ _ _, trivial⟩, bA⟩, hB0⟩, by omega⟩
    (fun x a' W => ∃ Bx, w.heap.size + 1 < Bx ∧ LnAt W Bx x.1 ∧ a' = { tmps := #[.string s, .pointer (some ⟨w.heap.size, 0, none⟩), .pointer (some ⟨w.heap.size + 1, 0, none⟩), .pointer (some ⟨Bx, 0, none⟩), .string s, .func (.func 25) #[] #[.pointer (some ⟨w.heap.size + 1 + 1, 0, none⟩)], .agg #[.int .i64 x.1.f, .int .i64 x.1.t, .int .i64 x.1.n], undef, undef, undef, undef, undef, undef, undef, undef, undef], defers := [] })
    (fun x a' _ X Y row hs hg hr => by obtain ⟨Bx, h1, h2, h3⟩ := hs; exact ⟨Bx, h1, h2.own hg (fun r e => (hr r e).2), h3⟩)
    ?assign ?body ?done ?stop
  case assign =>
    rintro l pre x W K ⟨⟨⟨⟨v, hv, hrow, _⟩, hA⟩, hB⟩, hW2⟩ hK
    have hltv := hv.lt
    dsimp only [encL]
    gi_wp2
    exact hK _ _ ((KeepsOthers.alloc _ _).from _) (Kept.alloc W hv.lt _) ⟨⟨⟨⟨v, hv.alloc _, hrow.alloc _, trivial⟩, hA.alloc _⟩, hB.alloc hB.size _⟩, by rw [World.size_alloc]; omega⟩ ⟨W.heap.size, hW2, World.alloc_heap_new W _, rfl⟩
  case body =>
    rintro l pre x a' W hl ⟨r, hr⟩ ⟨⟨⟨⟨v, hv, hrow, _⟩, hA⟩, hB⟩, hW2⟩ ⟨Bx, hBx, hX, rfl⟩ hlt
    have hul : Aside0 ((rw_ s (un pre)).length ≤ pre.length) := ⟨Nat.le_trans (rw_len _ _) (by rw [un_len]; exact Nat.le_refl _)⟩
    obtain ⟨x0, x1, x2⟩ := hX.cells
    have cA := hA.cell
    have hxx := x.2
    have hd : 1 ≤ n - 1 - 1 := by omega
    have hbl := blank_walk s x.1.f x.1.t x.1.n W (by omega) hxx.1 (by have := hxx.2.1; have := hxx.2.2.2; omega)
    obtain ⟨b, hb⟩ : ∃ b, Cur.blank s.data.toList x.1.f x.1.t = b := ⟨_, rfl⟩
    rw [hb] at hbl
    replace hbl := Aside0.mk hbl
    replace hb := Aside0.mk hb
    cases b with
    | true =>
      gi_wp2_with (refine ⟨trivial, ?_⟩; gi_at_call 16; refine (CallsIn.inRound l (callsIn_wide.2 hbl.out)).mono ?_; rintro e W2 ⟨rfl, hbb⟩)
      exact ⟨(KeepsOthers.of_grownBy (grown_of_below hbb) (fun _ _ e => by cases e)).from _, Kept.grown (grown_of_below hbb) hv.lt (fun _ e => by cases e),
        ⟨⟨⟨v, Boxed.below hv hbb, by rw [un_snoc, rw_miss _ _ _ hb.out]; exact hrow.kept (grown_of_below hbb) (own_not_none _), trivial⟩, Boxed.below hA hbb⟩, hB.trans (hbb.mono hB.size)⟩, Nat.lt_of_lt_of_le hW2 hbb.size⟩
    | false =>
      gi_wp2_with (first | (refine ⟨trivial, ?_⟩; gi_at_call 16; refine (CallsIn.inRound l (callsIn_wide.2 hbl.out)).mono ?_; rintro e W2 ⟨rfl, hbb⟩; have hv2 := Boxed.below hv hbb; have hc := hv2.cell; have hX2 := LnAt.below hX hbb; obtain ⟨x02, x12, x22⟩ := hX2.cells; have hrow2 := hrow.kept (grown_of_below hbb) (own_not_none _)) | (gi_at_builtin; refine wpListIn_append_own_at _ rfl _ _ 23 rfl w.heap.size 31 i0 (.agg #[.int .i64 0, .int .i64 0, .int .i64 0]) 3 24 Tryd.underlying23 hi hz0 hz1 hz2 rfl (by decide) _ _ _ rfl (hrow2.alloc _) ⟨W2.heap.size, 0, none⟩ 1 1 (cellsL x.1) rfl rfl (new_cells W2 x.1) (by simp [cellsL, Value.oneCell']) (by have := hul.out; simp only [maxLen]; omega) (by have := hul.out; omega) (by have := hB.size; have := hbb.size; simp; omega) ?_; intro v' w1 hown' hgrow _ hat; obtain ⟨g', cap', rfl⟩ := ownsRow_succ hown'; obtain ⟨hv1, hv2, hr2, hk2, hb2⟩ := hv2.appended (by decide) hrow2 (Nat.le_trans hB.size hbb.size) (Nat.le_succ _) hown' hgrow; have hc1 := hv1.cell; have hf1 := hv1.frozen))
      have hAw1 : Boxed w1 w.heap.size 9 (.string s) := ((Boxed.below hA hbb).alloc _).kept hgrow (fun e => (Boxed.below hA hbb).not_row (by decide) hrow2 e)
      refine ⟨((KeepsOthers.of_grownBy (grown_of_below hbb) (fun _ _ e => by cases e)).trans hk2).from _, (Kept.grown (grown_of_below hbb) hv.lt (fun _ e => by cases e)).trans (Kept.put hgrow (Nat.lt_of_lt_of_le hv.lt hbb.size) (by simp) 23 v _ (Boxed.below hv hbb) rfl hv1 hat (fun k e => own_lt hown' k e)),
        ⟨⟨⟨_, hv2, ?_, trivial⟩, hAw1.other (by omega) _⟩, (hB.trans (hbb.mono hB.size)).trans hb2⟩, ?_⟩
      · rw [un_snoc, rw_hit _ _ _ hb.out, flat_snoc, List.length_append]; exact hr2
      · have := hb2.size; have := hbb.size; omega
  case done =>
    rintro D ys W hD hys ⟨⟨⟨⟨v, hv, hrow, _⟩, hA⟩, hB⟩, hW2⟩ hK
    rw [show un ys = _ from hys] at hrow
    obtain ⟨p, c, rfl⟩ := own_is hrow
    have hc := hv.cell
    have hf := hv.frozen
    gi_wp2
    have hK' := (KeepsOthers.setCell W ⟨w.heap.size + 1, 0, none⟩ (.slice p (rw_ s (Cur.lines s.data.toList)).length c)).same D _ hK rfl
    refine ⟨by simp, .inl ⟨_, _, rfl, run_takeDeferred hK', ?_⟩⟩
    have hv2 := hv.set (.slice p (rw_ s (Cur.lines s.data.toList)).length c)
    have hrow2 := hrow.kept (grownBy_setCell' W (w.heap.size + 1) (.slice p (rw_ s (Cur.lines s.data.toList)).length c)) (.inr (hv.not_row (by decide) hrow).symm)
    have hc5 := cell_kept hv2.cell (grownBy_putObj' _ D (.deferred none)) (fun r e => by cases e; exact ⟨_, hK', rfl⟩)
    refine ⟨_, ?_, _, rfl, ownsRow_putObj hrow2 _ hK' rfl, (hB.setCell (p := ⟨w.heap.size + 1, 0, none⟩) (Nat.le_succ _) _).trans (belowK_b (w := w) (Nat.le_refl _) _ D _ _ (by omega) hK' rfl rfl)⟩
    simp [results, Tryd.f14, go_sem, hc5]
  case stop =>
    rintro D c pre W _ _ h _
    exact h.elim

def cursor_Lines.f (a0 : ByteArray) : Option (List S31) := if a0.size ≤ 1000000000 then some ((Cur.lines a0.data.toList).map toS) else none
theorem cursor_Lines.calls (a0 : ByteArray) (r : List S31) (w : World) (h : cursor_Lines.f a0 = some r) :
    Calls Tryd.prog 10 #[.string a0] w fun e w' => ∃ v0_ : Value, e = .returned (v0_) ∧ Kd.R k31 31 w' w.heap.size (fun _ => True) v0_ r ∧ Below w.heap.size w w' := by
  unfold cursor_Lines.f at h
  split at h
  · rename_i hs
    obtain rfl := Option.some.inj h
    refine (callsIn_wide (n := 3)).1 ((Lines_in 3 (by omega) a0 hs w).mono ?_)
    rintro e W' ⟨v, rfl, hr, hb⟩
    exact ⟨v, rfl, ⟨fun _ _ => trivial, flat (Cur.lines a0.data.toList), by rw [List.length_map]; exact hr, reps_flat _ _ _ _⟩, hb⟩
  · exact absurd h (by simp)
end Go.Proofs.YtfdeffjdhpdfeaaDoor
