/- Texts of this claim, joined: GivenI, GivenJ. Each as it was, cut to what the claim uses. Conditions: each theorem's own. -/
import Derived.Test.YtofklpphalalhaaGreatDoorUhJ7
import Derived.Test.YtofklpphalalhaaGreatDoorUhJ1
section
namespace Go.Proofs.YtofklpphalalhaaGreatDoor
set_option linter.unusedVariables false
set_option linter.unusedSimpArgs false
open Go.RowKit Go.Proofs.YtofklpphalalhaaGreatDoor.PAll Go.Proofs.YtofklpphalalhaaGreatDoorW.PrintWords Go.Proofs.YtofklpphalalhaaGreatDoorW.PrintLast Go.Proofs.YtofklpphalalhaaGreatDoorW.PrintMore
section
variable {α : Type} {K : Kd α} {enc : α → List Value}
theorem reps_enc {R : α → List Value → Prop} {z : Nat} (hM : ∀ x, R x (enc x)) (hz : ∀ x, (enc x).length = z) (xs : List α) : Reps R z xs (xs.flatMap enc) := by
  suffices h : ∀ (ys xs : List α), Reps R z ys (ys.flatMap enc) → Reps R z (ys ++ xs) ((ys ++ xs).flatMap enc) from h [] xs (Reps.none _ _)
  intro ys xs
  induction xs generalizing ys with
  | nil => intro h; rwa [List.append_nil]
  | cons x xs ih =>
    intro h
    have := ih (ys ++ [x]) (by
      rw [List.flatMap_append]
      have e : [x].flatMap enc = enc x := by simp
      rw [e]
      exact h.snoc (hM x) (hz x))
    rwa [List.append_assoc] at this
theorem rows_cells (hK : ∀ {w : World} {x cs}, K.K w x cs → cs = enc x) (hs : 0 < K.sz) {w : World} {A : Option Addr} {n : Nat} {l : List α} (h : Kd.C K w A n l) (hn : 0 < n) : ∃ b off, A = some ⟨b, off, none⟩ ∧ ∀ j u, (l.flatMap enc)[j]? = some u → w.cell? ⟨b, off + j, none⟩ = some u := by
  obtain ⟨hl, hm, hc'⟩ := h
  obtain ⟨ad, e, hc⟩ := hc' hn
  clear hc'
  obtain ⟨b, off, sp⟩ := ad
  have hsp : sp = none := by
    cases sp with
    | none => rfl
    | some x =>
      exfalso
      obtain ⟨c, hcs, _, hcell⟩ := hc 0 _ (List.getElem?_eq_getElem (by omega))
      have h0 := hcell 0 _ (List.getElem?_eq_getElem (by omega))
      rw [show (⟨b, off, some x⟩ : Addr).add (0 * K.sz + 0) = ⟨b, off, some x⟩ by simp [Addr.add]] at h0
      simp [World.cell?] at h0
      split at h0 <;> cases h0
  subst hsp
  refine ⟨b, off, e, ?_⟩
  intro j u hj
  have hz : ∀ x ∈ l, (enc x).length = K.sz := fun x hx => by
    obtain ⟨i, hi, rfl⟩ := List.getElem_of_mem hx
    obtain ⟨c, hcs, hr, _⟩ := hc i _ (List.getElem?_eq_getElem hi)
    rw [← hK hr]; exact hcs
  clear hm hn e hl
  induction l generalizing off j with
  | nil => simp at hj
  | cons x l ih =>
    rw [List.flatMap_cons] at hj
    by_cases hj' : j < K.sz
    · rw [List.getElem?_append_left (by rw [hz x (by simp)]; exact hj')] at hj
      obtain ⟨c, hcs, hr, hcell⟩ := hc 0 x rfl
      have := hcell j u (by rw [hK hr]; exact hj)
      rwa [Nat.zero_mul, Nat.zero_add, Addr.add_lit] at this
    · rw [List.getElem?_append_right (by rw [hz x (by simp)]; omega), hz x (by simp)] at hj
      have := ih (off := off + K.sz) (j := j - K.sz) (fun i p hp => by
        obtain ⟨c, hcs, hr, hcell⟩ := hc (i + 1) p (by simpa using hp)
        refine ⟨c, hcs, hr, fun q v hv => ?_⟩
        have := hcell q v hv
        rw [Addr.add_lit] at this ⊢
        rw [show off + K.sz + (i * K.sz + q) = off + ((i + 1) * K.sz + q) by rw [Nat.succ_mul]; omega]
        exact this) hj (fun y hy => hz y (by simp [hy]))
      rwa [show off + K.sz + (j - K.sz) = off + j by omega] at this
theorem R_of_rows (hM : ∀ (w : World) base ok x, K.M w base ok x (enc x)) (hz : ∀ x, (enc x).length = K.sz) (hs : 0 < K.sz) {w : World} {e base n : Nat} {v : Value} {l : List α} (h : w.ownsRow base e K.sz v n (l.flatMap enc)) : Kd.R K e w base (fun _ => True) v l := by
 have hr := reps_enc (R := K.M w base (fun k => True ∧ some k ≠ v.ownBlock)) (hM _ _ _) hz l
 have hl : l.length = n := by
  have h1 := h.1
  rw [hr.1] at h1
  exact Nat.eq_of_mul_eq_mul_right hs h1
 exact ⟨fun _ _ => trivial, _, by rw [hl]; exact h, hr⟩
end
theorem k71_sz (x : S71) : (ncs x).length = k71.sz := rfl
theorem ncs_one (l : List S71) : ∀ u ∈ l.flatMap ncs, u.oneCell' = true := by
 intro u hu
 rw [List.mem_flatMap] at hu
 obtain ⟨x, _, hx⟩ := hu
 simp only [ncs, List.mem_cons, List.not_mem_nil, or_false] at hx
 rcases hx with rfl | rfl | rfl | rfl | rfl | rfl | rfl <;> rfl
abbrev ic (n : Int) : List Value := [.int .i64 n]
theorem ic_one (l : List Int) : ∀ u ∈ l.flatMap ic, u.oneCell' = true := by
 intro u hu
 rw [List.mem_flatMap] at hu
 obtain ⟨x, _, hx⟩ := hu
 simp only [List.mem_cons, List.not_mem_nil, or_false] at hx
 subst hx; rfl
theorem info71 : (Tryz.prog.info? 71).map (fun i => (i.zero, i.size, i.bytes)) = some (some (.agg #[.int .i64 0, .int .i64 0, .int .i64 0, .int .i64 0, .int .i64 0, .int .i64 0, .int .i64 0]), 7, 56) := by kernel_rfl
theorem info3 : (Tryz.prog.info? 3).map (fun i => (i.zero, i.size, i.bytes)) = some (some (.int .i64 0), 1, 8) := by kernel_rfl
set_option maxRecDepth 100000 in
set_option maxHeartbeats 1000000 in
theorem cloneN_empty (A : Option Addr) (c : Nat) (w : World) : Calls Tryz.prog 67 #[.slice A 0 c] w fun e w' => ∃ v, e = .returned v ∧ w'.ownsRow w.heap.size 71 7 v 0 [] ∧ Below w.heap.size w w' := by
  cases A with
  | none =>
    refine (AnyE.slices_Clone_nil Tryz.laysCloneN 0 c w).mono ?_
    rintro e w' ⟨rfl, rfl⟩
    exact ⟨_, rfl, World.ownsRow_nil _ _ _ _, Below.refl _ _⟩
  | some ad =>
    obtain ⟨i0, hi, hz0, hz1, hz2⟩ := info_parts info71
    have q22 : ∀ (w : World) (a : Option Addr) (n c n' c' : Nat), (binOp .eql 22 (.slice a n c) (.slice none n' c')).run Tryz.prog w = .ok (.bool a.isNone) w := fun w a n c n' c' => Lib.run_eql_slice_nil w _ _ a n c n' c' Tryz.underlying22
    go_enter Tryz.func67, Tryz.ntmps67
    go_wp2_with (at_builtin; refine wpList_append_own _ rfl _ _ 22 rfl w.heap.size 71 i0 (.agg #[.int .i64 0, .int .i64 0, .int .i64 0, .int .i64 0, .int .i64 0, .int .i64 0, .int .i64 0]) 7 56 Tryz.underlying22 hi hz0 hz1 hz2 rfl (by decide) _ _ _ rfl (World.ownsRow_made w #[] 0 (Nat.le_refl _) (Nat.zero_le _) (by simp)) ad 0 c [] rfl (by rfl) (fun j u hj => by simp at hj) (fun u hu => by cases hu) (by simp) (by simp) (by simp) ?_)
    intro v' w1 hown hgrow hnil
    go_wp2
    go_ret
    exact ⟨v', rfl, by simpa using hown, ((Below.refl _ w).alloc (Nat.le_refl _) _).grown hgrow (by simp) (by intro k hk; simp [Value.ownBlock] at hk; omega)⟩
set_option maxRecDepth 100000 in
set_option maxHeartbeats 1000000 in
theorem cloneI_empty (A : Option Addr) (c : Nat) (w : World) : Calls Tryz.prog 68 #[.slice A 0 c] w fun e w' => ∃ v, e = .returned v ∧ w'.ownsRow w.heap.size 3 1 v 0 [] ∧ Below w.heap.size w w' := by
  cases A with
  | none =>
    refine (AnyE.slices_Clone_nil Tryz.laysCloneI 0 c w).mono ?_
    rintro e w' ⟨rfl, rfl⟩
    exact ⟨_, rfl, World.ownsRow_nil _ _ _ _, Below.refl _ _⟩
  | some ad =>
    obtain ⟨i0, hi, hz0, hz1, hz2⟩ := info_parts info3
    have q22 : ∀ (w : World) (a : Option Addr) (n c n' c' : Nat), (binOp .eql 23 (.slice a n c) (.slice none n' c')).run Tryz.prog w = .ok (.bool a.isNone) w := fun w a n c n' c' => Lib.run_eql_slice_nil w _ _ a n c n' c' Tryz.underlying23
    go_enter Tryz.func68, Tryz.ntmps68
    go_wp2_with (at_builtin; refine wpList_append_own _ rfl _ _ 23 rfl w.heap.size 3 i0 (.int .i64 0) 1 8 Tryz.underlying23 hi hz0 hz1 hz2 rfl (by decide) _ _ _ rfl (World.ownsRow_made w #[] 0 (Nat.le_refl _) (Nat.zero_le _) (by simp)) ad 0 c [] rfl (by rfl) (fun j u hj => by simp at hj) (fun u hu => by cases hu) (by simp) (by simp) (by simp) ?_)
    intro v' w1 hown hgrow hnil
    go_wp2
    go_ret
    exact ⟨v', rfl, by simpa using hown, ((Below.refl _ w).alloc (Nat.le_refl _) _).grown hgrow (by simp) (by intro k hk; simp [Value.ownBlock] at hk; omega)⟩
theorem k71_M (w : World) (base : Nat) (ok : Nat → Prop) (x : S71) : k71.M w base ok x (ncs x) := k71_mkM w base ok x
theorem kint_M (w : World) (base : Nat) (ok : Nat → Prop) (x : Int) : (Kd.int .i64).M w base ok x (ic x) := rfl
theorem cloneN (A : Option Addr) (c : Nat) (l : List S71) (w : World) (hlen : l.length ≤ 1000000000) (hr : Kd.C k71 w A l.length l) :
  Calls Tryz.prog 67 #[.slice A l.length c] w fun e w' => ∃ v, e = .returned v ∧ Kd.R k71 71 w' w.heap.size (fun _ => True) v l ∧ Below w.heap.size w w' := by
 by_cases h0 : l.length = 0
 ·have := cloneN_empty A c w
  rw [List.length_eq_zero_iff.1 h0]
  refine this.mono ?_
  rintro e w' ⟨v, rfl, ho, hb⟩
  exact ⟨v, rfl, R_of_rows (enc := ncs) k71_M k71_sz (by decide) (n := 0) ho, hb⟩
 ·obtain ⟨b, off, rfl, hcells⟩ := rows_cells (enc := ncs) (fun h => k71_open h) (by decide) hr (by omega)
  obtain ⟨i0, hi, hz0, hz1, hz2⟩ := info_parts info71
  have zof : ∀ w, (Go.sizeOf 71).run Tryz.prog w = .ok 7 w := fun w => by first | exact Tryz.sizeOf71 w | (simp [Go.sizeOf, hi, hz1])
  refine (AnyE.slices_Clone Tryz.laysCloneN i0 (.agg #[.int .i64 0, .int .i64 0, .int .i64 0, .int .i64 0, .int .i64 0, .int .i64 0, .int .i64 0]) 7 56 hi hz0 hz1 hz2 rfl (by decide) zof b off l.length c (l.flatMap ncs) w ((reps_enc (R := fun _ _ => True) (fun _ => trivial) k71_sz l).1) (by simp only [maxLen]; omega) (by omega) hcells (ncs_one l)).mono ?_
  rintro e w' ⟨v, rfl, ho, _, hb⟩
  exact ⟨v, rfl, R_of_rows (enc := ncs) k71_M k71_sz (by decide) ho, hb⟩
theorem cloneI (A : Option Addr) (c : Nat) (l : List Int) (w : World) (hlen : l.length ≤ 1000000000) (hr : Kd.C (Kd.int .i64) w A l.length l) :
  Calls Tryz.prog 68 #[.slice A l.length c] w fun e w' => ∃ v, e = .returned v ∧ Kd.R (Kd.int .i64) 3 w' w.heap.size (fun _ => True) v l ∧ Below w.heap.size w w' := by
 by_cases h0 : l.length = 0
 ·have := cloneI_empty A c w
  rw [List.length_eq_zero_iff.1 h0]
  refine this.mono ?_
  rintro e w' ⟨v, rfl, ho, hb⟩
  exact ⟨v, rfl, R_of_rows (K := Kd.int .i64) (enc := ic) kint_M (fun _ => rfl) (by decide) (n := 0) ho, hb⟩
 ·obtain ⟨b, off, rfl, hcells⟩ := rows_cells (K := Kd.int .i64) (enc := ic) (fun h => h) (by decide) hr (by omega)
  obtain ⟨i0, hi, hz0, hz1, hz2⟩ := info_parts info3
  have zof : ∀ w, (Go.sizeOf 3).run Tryz.prog w = .ok 1 w := fun w => by first | exact Tryz.sizeOf3 w | (simp [Go.sizeOf, hi, hz1])
  refine (AnyE.slices_Clone Tryz.laysCloneI i0 (.int .i64 0) 1 8 hi hz0 hz1 hz2 rfl (by decide) zof b off l.length c (l.flatMap ic) w ((reps_enc (enc := ic) (z := 1) (R := fun _ _ => True) (fun _ => trivial) (fun _ => rfl) l).1) (by simp only [maxLen]; omega) (by omega) hcells (ic_one l)).mono ?_
  rintro e w' ⟨v, rfl, ho, _, hb⟩
  exact ⟨v, rfl, R_of_rows (K := Kd.int .i64) (enc := ic) kint_M (fun _ => rfl) (by decide) ho, hb⟩
end Go.Proofs.YtofklpphalalhaaGreatDoor
end
section
namespace Go.Proofs.YtofklpphalalhaaGreatDoor
set_option linter.unusedVariables false
set_option linter.unusedSimpArgs false
open Go.RowKit Go.Proofs.YtofklpphalalhaaGreatDoor.PAll Go.Proofs.YtofklpphalalhaaGreatDoorW.PrintWords Go.Proofs.YtofklpphalalhaaGreatDoorW.PrintLast Go.Proofs.YtofklpphalalhaaGreatDoorW.PrintMore
namespace Cn
def ten (d : S71) : S71 := ⟨wrap64 (Int.tdiv d.f0 10), wrap64 (Int.tdiv d.f1 10), d.f2, d.f3, d.f4, d.f5, d.f6⟩
def down (x : In) : In := ⟨x.nm, x.kind, x.metric, x.scale - 1, x.cap, x.fleet, x.nodes.map ten, x.mx⟩
def goes (x : In) : Bool := btw x.scale 1 6 && !x.nodes.any odd
def normN : Nat → In → In
 | 0, x => x
 | n + 1, x => if goes x = true then normN n (down x) else x
def norm (x : In) : In := normN 7 x
theorem normN_stop (n : Nat) (x : In) (h : goes x = false) : normN n x = x := by
 cases n with
 | zero => rfl
 | succ n => unfold normN; rw [h]; rfl
end Cn
/-- What Norm has: the box, the variable of its answer, and rows of its own. -/
def NS (w W : World) (x : Cn.In) (v6 v7 : Value) : Prop :=
 W.heap[w.heap.size]? = some (inB x v6 v7) ∧ W.heap[w.heap.size + 1]? = some (.cells #[.string ⟨#[]⟩, .int .i64 0, .int .i64 0, .int .i64 0, .int .i64 0, .int .i64 0, .slice none 0 0, .slice none 0 0] 25) ∧ Below w.heap.size w W ∧ Kd.R k71 71 W w.heap.size (fun _ => True) v6 x.nodes ∧ Kd.R (Kd.int .i64) 3 W w.heap.size (fun _ => True) v7 x.mx
section
variable {w W W' : World} {x : Cn.In} {v6 v7 : Value}
theorem NS.cell (h : NS w W x v6 v7) (j : Nat) (v : Value) (hj : (#[Value.string x.nm, .int .i64 x.kind, .int .i64 x.metric, .int .i64 x.scale, .int .i64 x.cap, .int .i64 x.fleet, v6, v7])[j]? = some v) : W.cell? ⟨w.heap.size, j, none⟩ = some v := by
 rw [Lib.cell_of_heap h.1]; exact hj
theorem NS.frozen (h : NS w W x v6 v7) (j : Nat) : W.frozen? ⟨w.heap.size, j, none⟩ = false := Lib.frozen_of_heap h.1 j
theorem NS.below (h : NS w W x v6 v7) (hb : Below W.heap.size W W') : NS w W' x v6 v7 := by
 obtain ⟨h1, h2, h3, h4, h5⟩ := h
 exact ⟨(hb.block _ (Array.getElem?_eq_some_iff.1 h1).1).trans h1, (hb.block _ (Array.getElem?_eq_some_iff.1 h2).1).trans h2, h3.trans (hb.mono h3.size), Kd.R_below h4 hb, Kd.R_below h5 hb⟩
theorem NS.scale (h : NS w W x v6 v7) (s : Int) : NS w (W.setCell ⟨w.heap.size, 3, none⟩ (.int .i64 s)) ⟨x.nm, x.kind, x.metric, s, x.cap, x.fleet, x.nodes, x.mx⟩ v6 v7 := by
 obtain ⟨h1, h2, h3, h4, h5⟩ := h
 refine ⟨blk_put h1 3 _ rfl, ?_, h3.setCell (p := ⟨w.heap.size, 3, none⟩) (Nat.le_refl _) _, Kd.R_set h4 h1 (by decide) 3 _, Kd.R_set h5 h1 (by decide) 3 _⟩
 rw [Below.heap_setCell _ _ _ _ (by simp)]; exact h2
theorem NS.slice (h : NS w W x v6 v7) : ∃ A c, v6 = .slice A x.nodes.length c ∧ Kd.C k71 W A x.nodes.length x.nodes := by
 obtain ⟨A, c, e, _, hC⟩ := Kd.R_reads h.2.2.2.1
 exact ⟨A, c, e, hC⟩
theorem NS.node (g n c : Nat) (h : NS w W x (.slice (some ⟨g, 0, none⟩) n c) v7) (k : Nat) (hk : k < n) (j : Nat) (hj : j < 7) (u : Value) (d : S71)
  (hd : ncs d = (ncs (rd_T71 x.nodes k)).take j ++ [u] ++ (ncs (rd_T71 x.nodes k)).drop (j + 1)) :
  NS w (W.setCell ⟨g, k * 7 + j, none⟩ u) ⟨x.nm, x.kind, x.metric, x.scale, x.cap, x.fleet, x.nodes.set k d, x.mx⟩ (.slice (some ⟨g, 0, none⟩) n c) v7 := by
 obtain ⟨h1, h2, h3, h4, h5⟩ := h
 obtain ⟨cc, hcl, hM, hcc, _⟩ := Kd.R_elem h4 z71 (k : Int) (by omega) (by omega)
 have hcE := k71_openM hM
 simp only [Int.toNat_natCast] at hcc hcE
 have hcE' : cc = ncs (rd_T71 x.nodes k) := by rw [hcE]; rfl
 obtain ⟨hR, hG⟩ := Kd.R_seg (okp := fun k => k ≠ g) h4 (k : Int) (by omega) (by omega) (c := cc) (seg := [u]) (j := j) hcl (by simpa using hcc) (by show j + 1 ≤ 7; omega) (x' := d) (by
  rw [hcE', List.length_singleton, ← hd]; exact k71_M _ _ _ _) (fun _ hk => ⟨trivial, hk⟩)
 have hg := (Kd.R_reads' h4)
 obtain ⟨inner, ho⟩ := Kd.R_own h4
 have hgb := own_base ho g (by simp [Value.ownBlock])
 obtain ⟨cells, ht⟩ := own_typed ho g (by simp [Value.ownBlock])
 have e : W.setCells g ((k : Int).toNat * k71.sz + j) [u] = W.setCell ⟨g, k * 7 + j, none⟩ u := rfl
 rw [e] at hR hG
 simp only [Int.toNat_natCast] at hR
 have n1 : w.heap.size ≠ g := fun e => by rw [e, ht] at h1; simp at h1
 have n2 : w.heap.size + 1 ≠ g := fun e => by rw [e, ht] at h2; simp at h2
 refine ⟨?_, ?_, h3.setCell (p := ⟨g, k * 7 + j, none⟩) hgb _, hR, ?_⟩
 ·rw [Below.heap_setCell _ _ _ _ n1]; exact h1
 ·rw [Below.heap_setCell _ _ _ _ n2]; exact h2
 ·exact Kd.R_set h5 ht (by decide) _ _
end
theorem two_blocks (w : World) (o o' : Obj) : ((w.alloc o).alloc o').heap[w.heap.size]? = some o ∧ ((w.alloc o).alloc o').heap[w.heap.size + 1]? = some o' := by
 constructor
 ·rw [Below.heap_alloc _ _ _ (by simp)]; exact Array.getElem?_push_size
 ·have := Array.getElem?_push_size (xs := (w.alloc o).heap) (x := o')
  rw [show (w.alloc o).heap.size = w.heap.size + 1 by simp] at this; exact this
theorem two_then {w W1 W2 : World} {o o' : Obj} (b1 : Below ((w.alloc o).alloc o').drew.heap.size ((w.alloc o).alloc o').drew W1) (b2 : Below W1.heap.size W1 W2) : W2.heap[w.heap.size]? = some o ∧ W2.heap[w.heap.size + 1]? = some o' ∧ Below w.heap.size w W2 := by
 have h := two_blocks w o o'
 have b := b1.trans (b2.mono b1.size)
 have s : w.heap.size + 2 = ((w.alloc o).alloc o').drew.heap.size := by simp
 exact ⟨(b.block _ (by rw [← s]; omega)).trans h.1, (b.block _ (by rw [← s]; omega)).trans h.2, ((below_two w o o').drew).trans (b.mono (by rw [← s]; omega))⟩
def scaleAt (kb : Nat) (w : World) : Nat := match w.cell? ⟨kb, 3, none⟩ with
 | some (.int _ s) => s.toNat
 | _ => 0
theorem NS.scaleAt {w W : World} {x : Cn.In} {v6 v7 : Value} (h : NS w W x v6 v7) : scaleAt w.heap.size W = x.scale.toNat := by
 unfold YtofklpphalalhaaGreatDoor.scaleAt
 rw [h.cell 3 (.int .i64 x.scale) rfl]
theorem NS.done {w W w1 : World} {x : Cn.In} {v6 v7 : Value} (h : NS w W x v6 v7) (hg : W.grownBy w1 (some (w.heap.size + 1))) : Kd.R k71 71 w1 w.heap.size (fun _ => True) v6 x.nodes ∧ Kd.R (Kd.int .i64) 3 w1 w.heap.size (fun _ => True) v7 x.mx ∧ Below w.heap.size w w1 := by
 obtain ⟨h1, h2, h3, h4, h5⟩ := h
 have s : ∀ k, (True ∧ k ≠ w.heap.size + 1) → some k ≠ some (w.heap.size + 1) := fun k hk e => hk.2 (by injection e)
 exact ⟨Kd.R_mono (Kd.R_grown (Kd.R_types h4 h2 (by decide)) hg s) (fun _ _ => trivial), Kd.R_mono (Kd.R_grown (Kd.R_types h5 h2 (by decide)) hg s) (fun _ _ => trivial), h3.grown hg h3.size (by intro k hk; simp at hk; omega)⟩
/-- A struct is stored over a whole block. -/
theorem wpList_store_all {P : Program} {ops : Array Oper} {rest : List Oper} {o : Oper} {a : Act} {Q : Exit → Act → World → Prop} {W : World} (hN : o.dst = none) (hgd : o.guard = none) (t : TypeId) (p x : Operand) (ho : o.op = .store t p x) {g : Nat} {e : TypeId} {cur : Array Value} (hh : W.heap[g]? = some (.cells cur e (0, 0)))
  (haddr : a.eval p = .pointer (some ⟨g, 0, none⟩)) (u : Value) (seg : List Value) (hx : a.eval x = u) (hu : u.cells.toList = seg) (ht : (P.info? t).map (·.size) = some seg.length) (hsz : cur.size = seg.length) (h1 : ∀ q ∈ seg, q.oneCell' = true)
  (h : ∀ w1, w1.heap[g]? = some (.cells seg.toArray e (0, 0)) → W.grownBy w1 (some g) → wpList P ops Q rest a w1) : wpList P ops Q (o :: rest) a W := by
 obtain ⟨cur', h3, h4, h5⟩ := setCells_row seg 0 W cur hh (by omega)
 obtain ⟨s1, s2, s3, s4⟩ := setCells_same g seg 0 W
 have hc : cur' = seg.toArray := by
  apply Array.ext'
  rw [h5]
  simp [hsz]
 rw [hc] at h3
 refine wpList_plain hgd fun K hK => ?_
 have hrun := run_store_run (P := P) (o := 0) t u seg hh hu ht (by omega) h1
 unfold Oper.wp execOp
 simp only [ho, haddr, hx, Sem.run_bind, Sem.run_pure, Result.andThen_ok, hrun]
 show K (a.put o.dst undef) _
 rw [hN]
 exact hK _ _ (h _ h3 ⟨s1, s2, s3, by rw [s4]; exact Nat.le_refl _, fun k _ hk => setCells_far _ _ k (fun he => hk (by rw [he]))⟩)
namespace Cn
def half (d : S71) : S71 := ⟨wrap64 (Int.tdiv d.f0 10), d.f1, d.f2, d.f3, d.f4, d.f5, d.f6⟩
def mid (y : In) (k : Nat) : In := ⟨y.nm, y.kind, y.metric, y.scale - 1, y.cap, y.fleet, (y.nodes.take k).map ten ++ y.nodes.drop k, y.mx⟩
theorem mid_len (y : In) (k : Nat) : (mid y k).nodes.length = y.nodes.length := by simp [mid]; omega
theorem mid_at (y : In) (k : Nat) (hk : k < y.nodes.length) : rd_T71 (mid y k).nodes k = rd_T71 y.nodes k := by
 unfold rd_T71 mid
 simp only [Int.toNat_natCast, List.getD_eq_getElem?_getD]
 rw [List.getElem?_append_right (by simp; omega)]
 simp [Nat.min_eq_left (Nat.le_of_lt hk)]
theorem mid_next (y : In) (k : Nat) (hk : k < y.nodes.length) (d0 : S71) : ((mid y k).nodes.set k d0).set k (ten (rd_T71 y.nodes k)) = (mid y (k + 1)).nodes := by
 rw [List.set_set]
 unfold mid rd_T71
 simp only [Int.toNat_natCast, List.getD_eq_getElem?_getD, List.getElem?_eq_getElem hk, Option.getD_some]
 rw [List.set_append_right _ _ (by simp; omega), List.take_succ_eq_append_getElem hk, List.map_append, List.append_assoc]
 congr 1
 simp only [List.length_map, List.length_take, Nat.min_eq_left (Nat.le_of_lt hk), Nat.sub_self]
 rw [List.drop_eq_getElem_cons hk]
 rfl
theorem mid_end (y : In) : mid y y.nodes.length = down y := by simp [mid, down]
end Cn
/-- Behind the two clones. -/
theorem NS.start {w W2 : World} {x : Cn.In} {u6 u7 v6 v7 : Value} (h1 : W2.heap[w.heap.size]? = some (inB x u6 u7)) (h2 : W2.heap[w.heap.size + 1]? = some (.cells #[.string ⟨#[]⟩, .int .i64 0, .int .i64 0, .int .i64 0, .int .i64 0, .int .i64 0, .slice none 0 0, .slice none 0 0] 25)) (hB : Below w.heap.size w W2)
  (h6 : Kd.R k71 71 W2 w.heap.size (fun _ => True) v6 x.nodes) (h7 : Kd.R (Kd.int .i64) 3 W2 w.heap.size (fun _ => True) v7 x.mx) :
  NS w ((W2.setCell ⟨w.heap.size, 6, none⟩ v6).setCell ⟨w.heap.size, 7, none⟩ v7) x v6 v7 := by
 have g1 := blk_put h1 6 v6 rfl
 have k6 := Kd.R_set h6 h1 (by decide) 6 v6
 have k7 := Kd.R_set h7 h1 (by decide) 6 v6
 refine ⟨blk_put g1 7 v7 rfl, ?_, (hB.setCell (p := ⟨w.heap.size, 6, none⟩) (Nat.le_refl _) _).setCell (p := ⟨w.heap.size, 7, none⟩) (Nat.le_refl _) _, Kd.R_set k6 g1 (by decide) 7 _, Kd.R_set k7 g1 (by decide) 7 _⟩
 rw [Below.heap_setCell _ _ _ _ (by simp), Below.heap_setCell _ _ _ _ (by simp)]; exact h2
set_option maxRecDepth 100000 in
set_option maxHeartbeats 8000000 in
theorem norm_walk (x : Cn.In) (A6 A7 : Option Addr) (c6 c7 : Nat) (w : World) (h6 : x.nodes.length ≤ 1000000000) (h7 : x.mx.length ≤ 1000000000) (hC6 : Kd.C k71 w A6 x.nodes.length x.nodes) (hC7 : Kd.C (Kd.int .i64) w A7 x.mx.length x.mx) :
    Calls Tryz.prog 21 #[inV x (.slice A6 x.nodes.length c6) (.slice A7 x.mx.length c7)] w fun e w' => ∃ v6 v7, e = .returned (inV (Cn.norm x) v6 v7) ∧ Kd.R k71 71 w' w.heap.size (fun _ => True) v6 (Cn.norm x).nodes ∧ Kd.R (Kd.int .i64) 3 w' w.heap.size (fun _ => True) v7 (Cn.norm x).mx ∧ Below w.heap.size w w' := by
  obtain ⟨F, hF⟩ : ∃ F, Cn.norm x = F := ⟨_, rfl⟩
  rw [hF]
  have HC6 := Aside0.mk hC6
  have HC7 := Aside0.mk hC7
  have HF := Aside0.mk hF
  have hmf : ∀ (fn : Fn) (first cap : Array Value) (w : World), (Instr.makeFunc fn first cap).run Tryz.prog w = .ok (.func fn first cap) w := fun _ _ _ _ => rfl
  have HW : Aside0 (Below w.heap.size w ((w.alloc (inB x (.slice A6 x.nodes.length c6) (.slice A7 x.mx.length c7))).alloc (.cells #[.string ⟨#[]⟩, .int .i64 0, .int .i64 0, .int .i64 0, .int .i64 0, .int .i64 0, .slice none 0 0, .slice none 0 0] 25))) := ⟨below_two _ _ _⟩
  clear hC6 hC7 hF
  go_enter Tryz.func21, Tryz.ntmps21
  go_wp2_with fail
  have x6 : ((w.alloc (inB x (.slice A6 x.nodes.length c6) (.slice A7 x.mx.length c7))).alloc (.cells #[.string ⟨#[]⟩, .int .i64 0, .int .i64 0, .int .i64 0, .int .i64 0, .int .i64 0, .slice none 0 0, .slice none 0 0] 25)).cell? ⟨w.heap.size, 6, none⟩ = some (.slice A6 x.nodes.length c6) := by rw [Lib.cell_of_heap (two_blocks _ _ _).1]; rfl
  have x7 : ((w.alloc (inB x (.slice A6 x.nodes.length c6) (.slice A7 x.mx.length c7))).alloc (.cells #[.string ⟨#[]⟩, .int .i64 0, .int .i64 0, .int .i64 0, .int .i64 0, .int .i64 0, .slice none 0 0, .slice none 0 0] 25)).cell? ⟨w.heap.size, 7, none⟩ = some (.slice A7 x.mx.length c7) := by rw [Lib.cell_of_heap (two_blocks _ _ _).1]; rfl
  refine start_ (n := 10) (S := fun w' => w'.cell? ⟨w.heap.size, 6, none⟩ = some (.slice A6 x.nodes.length c6) ∧ w'.cell? ⟨w.heap.size, 7, none⟩ = some (.slice A7 x.mx.length c7)) (ds := [7, 9]) #[false, false, false, false, false, false, false, false, false, false] (by kernel_rfl) rfl rfl ⟨x6, x7⟩ (fun hHeld => ?_)
  refine pz (i := 0) (N := some 5) (bz 10 1) ?_
  refine pz (i := 3) (N := some 8) (bz 10 9) ?_
  refine tz (i := 1) (N := some 6) (bz 10 11) hHeld ?_
  refine tz (i := 4) (N := some 9) (bz 10 27) hHeld ?_
  refine one_ (i := 2) (N := some 7) (bz 10 31) rfl rfl (by kernel_rfl) (by decide) (fun K hK => ?_)
  refine goes_ Tryz.func67 (by kernel_rfl) rfl #[.slice A6 x.nodes.length c6] (by rfl) rfl rfl (by simp only [List.map_toArray, List.map_cons, List.map_nil]; rfl) ?_
  with_reducible refine ((cloneN A6 c6 x.nodes _ h6 (Kd.C_below HC6.out HW.out.drew))).mono ?_
  rintro e W1 ⟨v6, rfl, hR6, hb1⟩
  refine ⟨_, rfl, ?_⟩
  obtain ⟨B6, q6, rfl⟩ := Kd.R_slice hR6
  have d6 := (hb1.cell (p := ⟨w.heap.size, 6, none⟩) (by simp; omega)).trans x6
  have d7 := (hb1.cell (p := ⟨w.heap.size, 7, none⟩) (by simp; omega)).trans x7
  have HR6 := Aside0.mk hR6
  have HB1 := Aside0.mk hb1
  clear hR6 hb1
  refine hK.out _ _ ⟨d6, d7⟩ (fun hHeld => ?_)
  clear hK K
  refine nz (N := some 7) ?_
  refine pz (i := 6) (N := some 11) (bz 10 95) ?_
  refine one_ (i := 5) (N := some 10) (bz 10 127) rfl rfl (by kernel_rfl) (by decide) (fun K hK => ?_)
  refine goes_ Tryz.func68 (by kernel_rfl) rfl #[.slice A7 x.mx.length c7] (by rfl) rfl rfl (by simp only [List.map_toArray, List.map_cons, List.map_nil]; rfl) ?_
  with_reducible refine ((cloneI A7 c7 x.mx _ h7 (Kd.C_below HC7.out (HW.out.drew.trans (HB1.out.mono HW.out.drew.size))))).mono ?_
  rintro e W2 ⟨v7, rfl, hR7, hb2⟩
  refine ⟨_, rfl, ?_⟩
  obtain ⟨B7, q7, rfl⟩ := Kd.R_slice hR7
  have e6 := (hb2.cell (p := ⟨w.heap.size, 6, none⟩) (Nat.lt_of_lt_of_le (by simp; omega) HB1.out.size)).trans d6
  have e7 := (hb2.cell (p := ⟨w.heap.size, 7, none⟩) (Nat.lt_of_lt_of_le (by simp; omega) HB1.out.size)).trans d7
  have HR7 := Aside0.mk hR7
  have HB2 := Aside0.mk hb2
  have HN2 := Aside0.mk (two_then HB1.out hb2)
  have f6 := blk_frozen HN2.out.1 6
  have f7 := blk_frozen HN2.out.1 7
  clear hR7 hb2
  refine hK.out _ _ ⟨e6, e7⟩ (fun hHeld => ?_)
  clear hK K
  refine nz (N := some 10) ?_
  refine last_ (i := 7) (N := none) (bz 10 255) rfl rfl (by kernel_rfl) (by decide) (fun K hK => ?_)
  refine sz ?_
  refine hK.out _ _ ?_
  clear hK K
  refine pz (i := 8) (N := some 12) (bz 10 511) ?_
  refine last_ (i := 9) (N := none) (bz 10 1023) rfl rfl (by kernel_rfl) (by decide) (fun K hK => ?_)
  refine sz ?_
  refine hK.out _ _ ?_
  clear hK K
  refine done_ (by kernel_rfl) ?_
  have HS := Aside0.mk (NS.start HN2.out.1 HN2.out.2.1 HN2.out.2.2 (Kd.R_lower (Kd.R_below HR6.out HB2.out) (by simp; omega)) (Kd.R_lower HR7.out (Nat.le_trans (by simp; omega) HB1.out.size)))
  clear HB1 HB2 HR6 HR7 HN2 d6 d7 e6 e7 f6 f7 x6 x7 HW HC6 HC7
  generalize (World.setCell (World.setCell W2 _ _) _ _) = W at HS ⊢
  have hF7 : Cn.normN 7 x = F := HF.out
  have HR : Aside0 (∃ (m : Nat) (y : Cn.In), NS w W y (.slice B6 x.nodes.length q6) (.slice B7 x.mx.length q7) ∧ Cn.normN m y = F ∧ (Cn.btw y.scale 1 6 = true → y.scale + 1 ≤ m)) := ⟨7, x, HS.out, hF7, fun h => by have := of_decide_eq_true h; omega⟩
  clear HS HF hF7 hHeld
  go_wp2_with fail
  go_loopw [4, 30] (fun _ _ wr => ∃ (m : Nat) (y : Cn.In), NS w wr y (.slice B6 x.nodes.length q6) (.slice B7 x.mx.length q7) ∧ Cn.normN m y = F ∧ (Cn.btw y.scale 1 6 = true → y.scale + 1 ≤ m)) (fun _ _ wr => scaleAt w.heap.size wr)
  case atStart => exact HR.out
  case round =>
    obtain ⟨m, y, hs, hF, hm⟩ := hrel
    have HS := Aside0.mk hs
    have HF := Aside0.mk hF
    have HM := Aside0.mk hm
    clear hs hF hm HR
    have hlen : y.nodes.length = x.nodes.length := by
      obtain ⟨A, c, e, _⟩ := HS.out.slice
      injection e with _ e _
      exact e.symm
    have hsc := Aside0.mk HS.out.scaleAt
    have c3 := HS.out.cell 3 _ rfl
    have c6 := HS.out.cell 6 _ rfl
    have hw := btw_walk y.scale 1 6 wr
    obtain ⟨b, hb⟩ : ∃ b, Cn.btw y.scale 1 6 = b := ⟨_, rfl⟩
    rw [hb] at hw HM
    have HW := Aside0.mk hw
    have HBE := Aside0.mk hb
    clear hw hb
    go_wp2_with fail
    refine HW.out.mono ?_
    rintro e w' ⟨rfl, rfl⟩
    clear HW
    cases b with
    | false =>
      have HE : Aside0 (y = F) := ⟨by rw [← HF.out, Cn.normN_stop]; unfold Cn.goes; rw [HBE.out]; rfl⟩
      clear HF HM HBE
      obtain ⟨d0, d1, d2, d4, d5, d7⟩ : wr.cell? ⟨w.heap.size, 0, none⟩ = some (.string y.nm) ∧ wr.cell? ⟨w.heap.size, 1, none⟩ = some (.int .i64 y.kind) ∧ wr.cell? ⟨w.heap.size, 2, none⟩ = some (.int .i64 y.metric) ∧ wr.cell? ⟨w.heap.size, 4, none⟩ = some (.int .i64 y.cap) ∧ wr.cell? ⟨w.heap.size, 5, none⟩ = some (.int .i64 y.fleet) ∧ wr.cell? ⟨w.heap.size, 7, none⟩ = some (.slice B7 x.mx.length q7) := ⟨HS.out.cell 0 _ rfl, HS.out.cell 1 _ rfl, HS.out.cell 2 _ rfl, HS.out.cell 4 _ rfl, HS.out.cell 5 _ rfl, HS.out.cell 7 _ rfl⟩
      go_wp2_with (refine gate_ (.store 25 (.tmp 2) (.tmp 52)) rfl ?_; refine wpList_store_all rfl rfl 25 (.tmp 2) (.tmp 52) rfl HS.out.2.1 (by rfl) _ [.string y.nm, .int .i64 y.kind, .int .i64 y.metric, .int .i64 y.scale, .int .i64 y.cap, .int .i64 y.fleet, .slice B6 x.nodes.length q6, .slice B7 x.mx.length q7] (by rfl) rfl (by kernel_rfl) rfl (by intro q hq; simp only [List.mem_cons, List.not_mem_nil, or_false] at hq; rcases hq with rfl | rfl | rfl | rfl | rfl | rfl | rfl | rfl <;> rfl) ?_)
      intro w1 hb1 hg1
      have HD := Aside0.mk (HS.out.done hg1)
      clear d0 d1 d2 d4 d5 d7 c3 c6 hg1 HS
      go_wp2_with fail
      refine bodyPost_ret (results_cell_row rfl _ _ (w.heap.size + 1) 25 #[.string y.nm, .int .i64 y.kind, .int .i64 y.metric, .int .i64 y.scale, .int .i64 y.cap, .int .i64 y.fleet, .slice B6 x.nodes.length q6, .slice B7 x.mx.length q7] (0, 0) _ rfl hb1 Tryz.underlying25 rfl (by kernel_rfl)) rfl ?_
      rw [← HE.out]
      exact ⟨_, _, rfl, HD.out.1, HD.out.2.1, HD.out.2.2⟩
    | true =>
      have hr := of_decide_eq_true (show decide ((1 : Int) ≤ y.scale ∧ y.scale ≤ 6) = true from HBE.out)
      obtain ⟨A6', q6', e6, hC⟩ := HS.out.slice
      have e6' : B6 = A6' ∧ q6 = q6' := by rw [← hlen] at e6; injection e6 with a b c; exact ⟨a, c⟩
      obtain ⟨rfl, rfl⟩ := e6'
      have hc := odd_contains B6 q6 y.nodes wr hC
      obtain ⟨b2, hb2⟩ : ∃ b2, y.nodes.any Cn.odd = b2 := ⟨_, rfl⟩
      rw [hb2] at hc
      rw [hlen] at hc
      have HC := Aside0.mk hc
      have HB2 := Aside0.mk hb2
      clear hc hb2 hC e6
      go_wp2_with fail
      refine HC.out.mono ?_
      rintro e W3 ⟨rfl, hb3⟩
      replace HS := Aside0.mk (HS.out.below hb3)
      clear HC hb3 c3 c6
      have c3 := HS.out.cell 3 _ rfl
      have c6 := HS.out.cell 6 _ rfl
      cases b2 with
      | true =>
        have HE : Aside0 (y = F) := ⟨by rw [← HF.out, Cn.normN_stop]; unfold Cn.goes; rw [HBE.out, HB2.out]; rfl⟩
        clear HF HM HBE HB2
        obtain ⟨d0, d1, d2, d4, d5, d7⟩ : W3.cell? ⟨w.heap.size, 0, none⟩ = some (.string y.nm) ∧ W3.cell? ⟨w.heap.size, 1, none⟩ = some (.int .i64 y.kind) ∧ W3.cell? ⟨w.heap.size, 2, none⟩ = some (.int .i64 y.metric) ∧ W3.cell? ⟨w.heap.size, 4, none⟩ = some (.int .i64 y.cap) ∧ W3.cell? ⟨w.heap.size, 5, none⟩ = some (.int .i64 y.fleet) ∧ W3.cell? ⟨w.heap.size, 7, none⟩ = some (.slice B7 x.mx.length q7) := ⟨HS.out.cell 0 _ rfl, HS.out.cell 1 _ rfl, HS.out.cell 2 _ rfl, HS.out.cell 4 _ rfl, HS.out.cell 5 _ rfl, HS.out.cell 7 _ rfl⟩
        go_wp2_with (refine gate_ (.store 25 (.tmp 2) (.tmp 52)) rfl ?_; refine wpList_store_all rfl rfl 25 (.tmp 2) (.tmp 52) rfl HS.out.2.1 (by rfl) _ [.string y.nm, .int .i64 y.kind, .int .i64 y.metric, .int .i64 y.scale, .int .i64 y.cap, .int .i64 y.fleet, .slice B6 x.nodes.length q6, .slice B7 x.mx.length q7] (by rfl) rfl (by kernel_rfl) rfl (by intro q hq; simp only [List.mem_cons, List.not_mem_nil, or_false] at hq; rcases hq with rfl | rfl | rfl | rfl | rfl | rfl | rfl | rfl <;> rfl) ?_)
        intro w1 hb1 hg1
        have HD := Aside0.mk (HS.out.done hg1)
        clear d0 d1 d2 d4 d5 d7 c3 c6 hg1 HS
        go_wp2_with fail
        refine bodyPost_ret (results_cell_row rfl _ _ (w.heap.size + 1) 25 #[.string y.nm, .int .i64 y.kind, .int .i64 y.metric, .int .i64 y.scale, .int .i64 y.cap, .int .i64 y.fleet, .slice B6 x.nodes.length q6, .slice B7 x.mx.length q7] (0, 0) _ rfl hb1 Tryz.underlying25 rfl (by kernel_rfl)) rfl ?_
        rw [← HE.out]
        exact ⟨_, _, rfl, HD.out.1, HD.out.2.1, HD.out.2.2⟩
      | false =>
        have f3 := HS.out.frozen 3
        have HN := Aside0.mk (HS.out.scale (y.scale - 1))
        have c6' : (W3.setCell ⟨w.heap.size, 3, none⟩ (.int .i64 (y.scale - 1))).cell? ⟨w.heap.size, 6, none⟩ = some (.slice B6 x.nodes.length q6) := HN.out.cell 6 _ rfl
        go_wp2_with fail
        replace HN : Aside0 (NS w (W3.setCell ⟨w.heap.size, 3, none⟩ (.int .i64 (y.scale - 1))) (Cn.mid y 0) (.slice B6 x.nodes.length q6) (.slice B7 x.mx.length q7)) := ⟨HN.out⟩
        clear HS c3 c6 f3 c6'
        generalize (World.setCell W3 _ _) = W4 at HN ⊢
        go_loopw [4, 30] (fun _ v wr => ∃ k : Nat, k ≤ x.nodes.length ∧ v = .int .i64 k ∧ NS w wr (Cn.mid y k) (.slice B6 x.nodes.length q6) (.slice B7 x.mx.length q7)) (fun _ v _ => x.nodes.length - (intOf v).toNat)
        case atStart => exact ⟨0, Nat.zero_le _, rfl, HN.out⟩
        case round =>
          obtain ⟨k, hk, rfl, hs⟩ := hrel
          have HS := Aside0.mk hs
          clear hs HN
          by_cases hlt : k < x.nodes.length
          · have hdl : decide (k < x.nodes.length) = true := decide_eq_true hlt
            obtain ⟨g, hg⟩ : ∃ g, B6 = some ⟨g, 0, none⟩ := by
              obtain ⟨inner, ho⟩ := Kd.R_own HS.out.2.2.2.1
              rcases ho.2 with ⟨e, h0⟩ | ⟨g, cap, cur, e, _⟩
              · rw [Cn.mid_len, hlen] at h0; omega
              · injection e with e; exact ⟨g, e⟩
            subst hg
            obtain ⟨d, hd⟩ : ∃ d, rd_T71 y.nodes k = d := ⟨_, rfl⟩
            have hky : k < y.nodes.length := by omega
            have hdm : rd_T71 (Cn.mid y k).nodes k = d := by rw [Cn.mid_at y k hky, hd]
            have x0 : wr.cell? ⟨g, k * 7, none⟩ = some (.int .i64 d.f0) := by
              obtain ⟨A, c, e, hC⟩ := HS.out.slice
              injection e with e _ _
              subst e
              obtain ⟨ad, e, x0, _⟩ := at_T71 hC (k : Int) (by omega) (by rw [Cn.mid_len]; omega)
              injection e with e
              subst e
              simp only [Int.toNat_natCast, Addr.add_lit, Nat.zero_add] at x0
              rw [hdm] at x0; exact x0
            have hfz : ∀ {W : World} {z : Cn.In}, NS w W z (.slice (some ⟨g, 0, none⟩) x.nodes.length q6) (.slice B7 x.mx.length q7) → ∀ j, W.frozen? ⟨g, j, none⟩ = false := fun h j => by
              obtain ⟨inner, ho⟩ := Kd.R_own h.2.2.2.1
              obtain ⟨cells, hc⟩ := own_typed ho g (by simp [Value.ownBlock])
              exact blk_frozen hc _
            have f0 := hfz HS.out (k * 7)
            have HA := Aside0.mk (HS.out.node g _ _ k hlt 0 (by omega) (.int .i64 (wrap64 (Int.tdiv d.f0 10))) (Cn.half d) (by rw [hdm]; rfl))
            simp only [Nat.add_zero] at HA
            have c6 := HS.out.cell 6 _ rfl
            have c6' : (wr.setCell ⟨g, k * 7, none⟩ (.int .i64 (wrap64 (Int.tdiv d.f0 10)))).cell? ⟨w.heap.size, 6, none⟩ = some (.slice (some ⟨g, 0, none⟩) x.nodes.length q6) := HA.out.cell 6 _ rfl
            have f1 := hfz HA.out (k * 7 + 1)
            have hdn : rd_T71 ((Cn.mid y k).nodes.set k (Cn.half d)) k = Cn.half d := by
              unfold rd_T71
              rw [Int.toNat_natCast, List.getD_eq_getElem?_getD, List.getElem?_set_self (by rw [Cn.mid_len]; omega)]; rfl
            have x1 : (wr.setCell ⟨g, k * 7, none⟩ (.int .i64 (wrap64 (Int.tdiv d.f0 10)))).cell? ⟨g, k * 7 + 1, none⟩ = some (.int .i64 d.f1) := by
              obtain ⟨A, c, e, hC⟩ := HA.out.slice
              injection e with e _ _
              subst e
              obtain ⟨ad, e, _, x1, _⟩ := at_T71 hC (k : Int) (by omega) (by simp only [List.length_set, Cn.mid_len]; omega)
              injection e with e
              subst e
              simp only [Int.toNat_natCast, Addr.add_lit, Nat.zero_add] at x1
              rw [hdn] at x1; exact x1
            have HB := Aside0.mk (HA.out.node g _ _ k hlt 1 (by omega) (.int .i64 (wrap64 (Int.tdiv d.f1 10))) (Cn.ten d) (by rw [hdn]; rfl))
            have HE : Aside0 (∀ V, NS w V ⟨y.nm, y.kind, y.metric, y.scale - 1, y.cap, y.fleet, ((Cn.mid y k).nodes.set k (Cn.half d)).set k (Cn.ten d), y.mx⟩ (.slice (some ⟨g, 0, none⟩) x.nodes.length q6) (.slice B7 x.mx.length q7) → NS w V (Cn.mid y (k + 1)) (.slice (some ⟨g, 0, none⟩) x.nodes.length q6) (.slice B7 x.mx.length q7)) := ⟨fun V h => by
              rw [← hd, Cn.mid_next y k hky] at h; exact h⟩
            replace HB := Aside0.mk (HE.out _ HB.out)
            clear hfz HA HE hdn hd hdm HS
            go_wp2_with fail
            go_roundw
            case rel => exact ⟨k + 1, by omega, by go_num, HB.out⟩
            case measure => simp [intOf]; omega
          · have hdl : decide (k < x.nodes.length) = false := decide_eq_false hlt
            have hke : k = y.nodes.length := by omega
            have HN : Aside0 (NS w wr (Cn.down y) (.slice B6 x.nodes.length q6) (.slice B7 x.mx.length q7)) := ⟨by rw [← Cn.mid_end, ← hke]; exact HS.out⟩
            have hm : m ≠ 0 := by have := HM.out trivial; omega
            obtain ⟨m', rfl⟩ := Nat.exists_eq_succ_of_ne_zero hm
            have HN2 : Aside0 (Cn.normN m' (Cn.down y) = F) := ⟨by have := HF.out; unfold Cn.normN Cn.goes at this; rw [HBE.out, HB2.out] at this; simpa using this⟩
            have HM2 : Aside0 (Cn.btw (Cn.down y).scale 1 6 = true → (Cn.down y).scale + 1 ≤ m') := ⟨fun _ => by have := HM.out trivial; show y.scale - 1 + 1 ≤ _; omega⟩
            clear HS HF HM HBE HB2 hke
            go_wp2_with fail
            go_roundw
            case rel => exact ⟨m', _, HN.out, HN2.out, HM2.out⟩
            case measure => rw [HN.out.scaleAt, hsc.out]; show (y.scale - 1).toNat < y.scale.toNat; omega
end Go.Proofs.YtofklpphalalhaaGreatDoor
end
