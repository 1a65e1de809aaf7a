/- jsonic's machine as a state: fail, peek and put over it. Conditions: the machine lies as told; at most 1000000000 items. -/
import Derived.Test.YtainnkpoibgkcaaDoorGivenB
namespace Go.Proofs.YtainnkpoibgkcaaDoor
set_option linter.unusedVariables false
set_option linter.unusedSimpArgs false
open Go.RowKit Go.Proofs.YtainnkpoibgkcaaDoor.PAll Go.Proofs.YtainnkpoibgkcaaDoorW.PrintWords Go.Proofs.YtainnkpoibgkcaaDoorW.PrintLast

/-- An item's cells. -/
def itc (x : S38) : List Value := [.int .i64 x.f0, .int .i64 x.f1, .string x.f2, .int .i64 x.f3]
def flat (l : List S38) : List Value := l.flatMap itc
theorem flat_append (a b : List S38) : flat (a ++ b) = flat a ++ flat b := by simp [flat]
theorem flat_len (l : List S38) : (flat l).length = l.length * 4 := by
  induction l with
  | nil => rfl
  | cons x l ih => simp [flat] at ih ⊢; rw [ih]; simp [itc]; omega
theorem info38 : (Tryd.prog.info? 38).map (fun i => (i.zero, i.size, i.bytes)) = some (some (.agg #[.int .i64 0, .int .i64 0, .string ByteArray.empty, .int .i64 0]), 4, 40) := by kernel_rfl
/-- The machine at place p, with these open, and these items. -/
def MS (w : World) (base B : Nat) (s : ByteArray) (p : Nat) (st : List UInt8) (its : List S38) (d0 d1 : Int) : Prop :=
  ∃ (o : Nat → Int) (v : Value), IsM w B s p o st.length v d0 d1 ∧ w.ownsRow base 38 4 v its.length (flat its) ∧ base ≤ B ∧ ∀ i (h : i < st.length), o (st.length - 1 - i) = ((st[i]'h).toNat : Int)
theorem own38_ne {w : World} {base n B : Nat} {v : Value} {xs : List Value} {cs : Array Value} {fr : Nat × Nat} (hown : w.ownsRow base 38 4 v n xs) (hb : w.heap[B]? = some (.cells cs 67 fr)) : v.ownBlock ≠ some B := by
  rcases hown.2 with ⟨rfl, _⟩ | ⟨g, cap, cur, rfl, _, hg, _⟩
  · simp [Value.ownBlock]
  · intro h
    simp only [Value.ownBlock, Option.some.injEq] at h
    subst h
    rw [hg] at hb
    simp only [Option.some.injEq, Obj.cells.injEq] at hb
    exact absurd hb.2.1 (by decide)
theorem MS.lt {w : World} {base B p : Nat} {s : ByteArray} {st : List UInt8} {its : List S38} {d0 d1 : Int} (h : MS w base B s p st its d0 d1) : B < w.heap.size := by
  obtain ⟨o, v, hM, _⟩ := h; exact hM.lt
theorem MS.base_le {w : World} {base B p : Nat} {s : ByteArray} {st : List UInt8} {its : List S38} {d0 d1 : Int} (h : MS w base B s p st its d0 d1) : base ≤ w.heap.size := by
  obtain ⟨o, v, hM, _, hb, _⟩ := h; have := hM.lt; omega
/-- What turns neither the machine nor rows of items. -/
theorem MS.others {w w' : World} {base B p : Nat} {s : ByteArray} {st : List UInt8} {its : List S38} {d0 d1 : Int} (h : MS w base B s p st its d0 d1)
    (hk : ∀ (k : Nat) (o : Obj), w.heap[k]? = some o → (∃ c fz, o = Obj.cells c 67 fz ∨ o = Obj.cells c 38 fz) → w'.heap[k]? = some o) : MS w' base B s p st its d0 d1 := by
  obtain ⟨o, v, hM, ho, hb, hst⟩ := h
  refine ⟨o, v, hk B _ (show w.heap[B]? = some _ from hM) ⟨_, _, .inl rfl⟩, ?_, hb, hst⟩
  refine ⟨ho.1, ?_⟩
  rcases ho.2 with h2 | ⟨g, cap, cur, rfl, h3, hg, h4⟩
  · exact .inl h2
  · exact .inr ⟨g, cap, cur, rfl, h3, hk g _ hg ⟨_, _, .inr rfl⟩, h4⟩
theorem MS.below {w w' : World} {base B p : Nat} {s : ByteArray} {st : List UInt8} {its : List S38} {d0 d1 : Int} (h : MS w base B s p st its d0 d1) (hb : Below w.heap.size w w') : MS w' base B s p st its d0 d1 :=
  h.others fun k o hk _ => by rw [hb.block k (Array.getElem?_eq_some_iff.1 hk).1]; exact hk
theorem MS.alloc {w : World} {base B p : Nat} {s : ByteArray} {st : List UInt8} {its : List S38} {d0 d1 : Int} (h : MS w base B s p st its d0 d1) (o : Obj) : MS (w.alloc o) base B s p st its d0 d1 :=
  h.below ((Below.refl _ _).alloc (Nat.le_refl _) o)
theorem below_grown {w w' : World} {base B : Nat} (hb : base ≤ B) (hw : base ≤ w.heap.size) (hg : w.grownBy w' (some B)) : Below base w w' := (Below.refl _ _).grown hg hw (fun k hk => by cases hk; exact hb)
/-- Where the machine's block alone is written. -/
theorem MS.put {w w' : World} {base B p : Nat} {s : ByteArray} {st : List UInt8} {its : List S38} {d0 d1 : Int} (h : MS w base B s p st its d0 d1) {p' : Nat} {e0 e1 : Int}
    (hM : ∀ o v, IsM w B s p o st.length v d0 d1 → IsM w' B s p' o st.length v e0 e1) (hg : w.grownBy w' (some B)) : MS w' base B s p' st its e0 e1 ∧ Below base w w' := by
  have hbw := h.base_le
  obtain ⟨o, v, hM0, ho, hb, hst⟩ := h
  exact ⟨⟨o, v, hM o v hM0, ho.kept hg (.inr (own38_ne ho hM0)), hb, hst⟩, below_grown hb hbw hg⟩

theorem fail_ms {w : World} {base B p : Nat} {s : ByteArray} {st : List UInt8} {its : List S38} {d0 d1 : Int} (h : MS w base B s p st its d0 d1) (a c : Int) :
    Calls Tryd.prog 28 #[.pointer (some ⟨B, 0, none⟩), .int .i64 a, .int .i64 c] w fun e w' => e = .returned (.bool false) ∧ MS w' base B s p st its a c ∧ Below base w w' := by
  have hbw := h.base_le
  obtain ⟨o, v, hM, ho, hb, hst⟩ := h
  refine (fail_calls hM a c).mono ?_
  rintro e w' ⟨rfl, h1, h2⟩
  exact ⟨rfl, ⟨o, v, h1, ho.kept h2 (.inr (own38_ne ho hM)), hb, hst⟩, below_grown hb hbw h2⟩
theorem peek_ms {w : World} {base B p : Nat} {s : ByteArray} {st : List UInt8} {its : List S38} {d0 d1 : Int} (h : MS w base B s p st its d0 d1) (hp : p ≤ s.size) (hs : s.size ≤ 1000000000) (q : Nat) (hq : q + (Js.skip (s.data.toList.drop p)).length = s.size) :
    Calls Tryd.prog 27 #[.pointer (some ⟨B, 0, none⟩)] w fun e w' => e = .returned (.int .u8 (Js.hd (Js.skip (s.data.toList.drop p)))) ∧ MS w' base B s q st its d0 d1 ∧ Below base w w' := by
  have hbw := h.base_le
  obtain ⟨o, v, hM, ho, hb, hst⟩ := h
  refine (peek_calls hM hp hs q hq).mono ?_
  rintro e w' ⟨rfl, h1, h2⟩
  exact ⟨rfl, ⟨o, v, h1, ho.kept h2 (.inr (own38_ne ho hM)), hb, hst⟩, below_grown hb hbw h2⟩

theorem cell_alloc {w : World} {a : Addr} {v : Value} {o : Obj} (h : w.cell? a = some v) : (w.alloc o).cell? a = some v := by
  have hb := World.block_lt_of_cell? w _ h
  rw [World.cell?_of_block (w := w) (Below.heap_alloc w o a.block hb)]; exact h
theorem own_form {w : World} {base e z n : Nat} {v : Value} {xs : List Value} (h : w.ownsRow base e z v (n + 1) xs) : ∃ g cap, v = .slice (some ⟨g, 0, none⟩) (n + 1) cap := by
  rcases h.2 with ⟨_, h0⟩ | ⟨g, cap, cur, hv, _⟩
  · omega
  · exact ⟨g, cap, hv⟩
/-- append of one item, as a step of a region that draws its order. -/
theorem step_append_item {ops : Array Oper} {o : Oper} {a : Act} {w : World} {Q : Exit → Act → World → Prop} {K : Act → World → Prop} (hw : Region.wanted o (yielded ops a.tmps) = true) (s x : Operand)
    (ho : o.op = .call { callee := .builtin .append, args := #[s, x], argTypes := #[22, 22] }) (base : Nat) (v : Value) (n : Nat) (vs : List Value) (hs : a.eval s = v) (hown : w.ownsRow base 38 4 v n vs) (g : Nat) (hx : a.eval x = .slice (some ⟨g, 0, none⟩) 1 1) (y : S38)
    (hg : w.heap[g]? = some (.cells (itc y).toArray 38 (0, 0))) (hlen : n ≤ 1000000000) (hbase : base ≤ w.heap.size)
    (h : ∀ v' w', w'.ownsRow base 38 4 v' (n + 1) (vs ++ itc y) → w.grownBy w' v.ownBlock → K (a.put o.dst v') w') :
    if Region.wanted o (yielded ops a.tmps) = true then Oper.wp Tryd.prog o a w K Q else K (a.put o.dst undef) w := by
  rw [if_pos hw]
  obtain ⟨i0, hi, hz0, hz1, hz2⟩ := info_parts info38
  obtain ⟨v', w', hr, h2, h3, _⟩ := run_append_own w base 22 o.type 38 i0 _ 4 40 Tryd.underlying22 hi hz0 hz1 hz2 rfl (by decide) v n vs hown ⟨g, 0, none⟩ 1 1 (itc y) rfl (fun j u hj => by
    match j, hj with
    | 0, hj => simp [itc] at hj; subst hj; simp [World.cell?, Addr.add, hg, itc]
    | 1, hj => simp [itc] at hj; subst hj; simp [World.cell?, Addr.add, hg, itc]
    | 2, hj => simp [itc] at hj; subst hj; simp [World.cell?, Addr.add, hg, itc]
    | 3, hj => simp [itc] at hj; subst hj; simp [World.cell?, Addr.add, hg, itc]) (fun u hu => by simp [itc] at hu; rcases hu with rfl | rfl | rfl | rfl <;> rfl) (by simp only [maxLen]; omega) (by omega) hbase
  unfold Oper.wp execOp
  simp only [ho, resolve, invoke, builtin, Sem.run_bind, Sem.run_pure, Result.andThen_ok, List.map_toArray, List.map_cons, List.map_nil, hs, hx, hr]
  exact h v' w' h2 h3

set_option maxRecDepth 100000 in
set_option maxHeartbeats 4000000 in
theorem put_ms {w : World} {base B p : Nat} {s : ByteArray} {st : List UInt8} {its : List S38} {d0 d1 : Int} (h : MS w base B s p st its d0 d1) (hn : its.length ≤ 1000000000) (x : S38) :
    Calls Tryd.prog 41 #[.pointer (some ⟨B, 0, none⟩), .agg #[.int .i64 x.f0, .int .i64 x.f1, .string x.f2, .int .i64 x.f3]] w fun e w' => e = .returned (.tuple #[]) ∧ MS w' base B s p st (its ++ [x]) d0 d1 ∧ Below base w w' := by
  have hbw := h.base_le
  obtain ⟨o, v, hM, ho, hb, hst⟩ := h
  have hlt := hM.lt
  obtain ⟨w1, hw1⟩ : ∃ w1, w.alloc (.cells #[.int .i64 x.f0, .int .i64 x.f1, .string x.f2, .int .i64 x.f3] 38) = w1 := ⟨_, rfl⟩
  have hB1 : Below w.heap.size w w1 := by rw [← hw1]; exact (Below.refl _ _).alloc (Nat.le_refl _) _
  have hz1 : w1.heap.size = w.heap.size + 1 := by rw [← hw1]; simp
  have hM1 := hM.below hB1
  have ho1 : w1.ownsRow base 38 4 v its.length (flat its) := by rw [← hw1]; exact ho.alloc _
  have x0 : w1.cell? ⟨w.heap.size, 0, none⟩ = some (.int .i64 x.f0) := by rw [← hw1]; simp [go_sem]
  have x1 : w1.cell? ⟨w.heap.size, 1, none⟩ = some (.int .i64 x.f1) := by rw [← hw1]; simp [go_sem]
  have x2 : w1.cell? ⟨w.heap.size, 2, none⟩ = some (.string x.f2) := by rw [← hw1]; simp [go_sem]
  have x3 : w1.cell? ⟨w.heap.size, 3, none⟩ = some (.int .i64 x.f3) := by rw [← hw1]; simp [go_sem]
  obtain ⟨_, _, _, c19, _, _, _⟩ := hM1.cells
  have HM := Aside0.mk hM1
  have HO := Aside0.mk ho1
  have HST := Aside0.mk hst
  replace hB1 := Aside0.mk hB1
  replace hz1 := Aside0.mk hz1
  clear hM ho hM1 ho1 hst
  obtain ⟨n, hn'⟩ : ∃ n, its.length = n := ⟨_, rfl⟩
  rw [hn'] at HO hn
  replace hn' := Aside0.mk hn'
  go_enter Tryd.func41, Tryd.ntmps41
  go_wp2_with fail
  refine start_ (n := 11) (S := fun w' => w'.cell? ⟨B, 19, none⟩ = some v ∧ w'.cell? ⟨w.heap.size, 0, none⟩ = some (.int .i64 x.f0) ∧ w'.cell? ⟨w.heap.size, 1, none⟩ = some (.int .i64 x.f1) ∧ w'.cell? ⟨w.heap.size, 2, none⟩ = some (.string x.f2) ∧ w'.cell? ⟨w.heap.size, 3, none⟩ = some (.int .i64 x.f3)) (ds := [7, 10]) #[false, false, false, false, false, false, false, false, false, false, false] (by kernel_rfl) rfl rfl ⟨c19, x0, x1, x2, x3⟩ (fun hHeld => ?_)
  refine pure_ (i := 0) (N := some 4) (v := ?_) (a' := ?_) #[true, false, false, false, false, false, false, false, false, false, false] rfl rfl (by kernel_rfl) (fun _ _ _ h => h) (Or.inl ⟨by rfl, ?_⟩) ?_ ?_
  rotate_left
  · intro w'
    go_simp
    with_reducible rfl
  rotate_left
  · simp only [Act.put, List.setIfInBounds_toArray, List.set_cons_zero, List.set_cons_succ, i64_w, i32_w]
    rfl
  refine pure_ (i := 1) (N := some 5) (v := ?_) (a' := ?_) #[true, true, false, false, false, false, false, false, false, false, false] rfl rfl (by kernel_rfl) (fun _ _ _ h => h) (Or.inl ⟨by rfl, ?_⟩) ?_ ?_
  rotate_left
  · intro w'
    go_simp
    with_reducible rfl
  rotate_left
  · simp only [Act.put, List.setIfInBounds_toArray, List.set_cons_zero, List.set_cons_succ, i64_w, i32_w]
    rfl
  refine pure_ (i := 2) (N := some 6) (v := ?_) (a' := ?_) #[true, true, true, false, false, false, false, false, false, false, false] rfl rfl (by kernel_rfl) (fun _ _ _ h => h) (Or.inl ⟨by rfl, ?_⟩) ?_ ?_
  rotate_left
  · intro w'
    go_simp
    with_reducible rfl
  rotate_left
  · simp only [Act.put, List.setIfInBounds_toArray, List.set_cons_zero, List.set_cons_succ, i64_w, i32_w]
    rfl
  refine pure_ (i := 3) (N := some 7) (v := ?_) (a' := ?_) #[true, true, true, true, false, false, false, false, false, false, false] rfl rfl (by kernel_rfl) (fun _ _ _ h => h) (Or.inl ⟨by rfl, ?_⟩) ?_ ?_
  rotate_left
  · intro w'
    go_simp
    with_reducible rfl
  rotate_left
  · simp only [Act.put, List.setIfInBounds_toArray, List.set_cons_zero, List.set_cons_succ, i64_w, i32_w]
    rfl
  refine take_ (i := 4) (N := some 8) (v := ?_) (a' := ?_) #[true, true, true, true, true, false, false, false, false, false, false] rfl rfl (by kernel_rfl) (fun _ _ _ h => h) (Or.inl ⟨by rfl, ?_⟩) hHeld ?_ ?_
  rotate_left
  · rintro w' ⟨s0, s1, s2, s3, s4⟩
    go_simp
    with_reducible rfl
  rotate_left
  · simp only [Act.put, List.setIfInBounds_toArray, List.set_cons_zero, List.set_cons_succ, i64_w, i32_w]
    rfl
  refine take_ (i := 5) (N := some 9) (v := ?_) (a' := ?_) #[true, true, true, true, true, true, false, false, false, false, false] rfl rfl (by kernel_rfl) (fun _ _ _ h => h) (Or.inl ⟨by rfl, ?_⟩) hHeld ?_ ?_
  rotate_left
  · rintro w' ⟨s0, s1, s2, s3, s4⟩
    go_simp
    with_reducible rfl
  rotate_left
  · simp only [Act.put, List.setIfInBounds_toArray, List.set_cons_zero, List.set_cons_succ, i64_w, i32_w]
    rfl
  refine one_ (i := 6) (N := some 10) #[true, true, true, true, true, true, true, false, false, false, false] rfl rfl (by kernel_rfl) (by decide) (fun K hK => ?_)
  refine value_ (w1 := ?_) (v := ?_) (by rfl) rfl ?_ ?_
  rotate_left 2
  · go_simp
    constructor
    · rfl
    · rfl
  refine hK.out _ _ ⟨cell_alloc c19, cell_alloc x0, cell_alloc x1, cell_alloc x2, cell_alloc x3⟩ (fun hHeld => ?_)
  clear hK K
  refine norm_ (a' := ?_) ?_ ?_
  rotate_left
  · show Act.put _ (some 10) _ = _
    simp only [Act.put, List.setIfInBounds_toArray, List.set_cons_zero, List.set_cons_succ, i64_w, i32_w]
    rfl
  refine last_ (i := 7) (N := some 11) #[true, true, true, true, true, true, true, true, false, false, false] rfl rfl (by kernel_rfl) (by decide) (fun K hK => ?_)
  refine step_append_item (by rfl) (.tmp 8) (.tmp 10) rfl base v n (flat its) (by rfl) (HO.out.alloc _) w1.heap.size (by rfl) x Array.getElem?_push_size hn (by have := hz1.out; simp; omega) ?_
  intro v' w3 hown hgrow
  obtain ⟨g', cap', rfl⟩ := own_form hown
  have hM3 : Aside0 (IsM w3 B s p o st.length v d0 d1) := ⟨IsM.grown (IsM.below HM.out (Below.drew ((Below.refl _ _).alloc (Nat.le_refl _) _))) hgrow (own38_ne HO.out HM.out)⟩
  have f3 := hM3.out.cells.2.2.2.2.2.2 19
  have c3 := hM3.out.cells.2.2.2.1
  refine hK.out _ _ ?_
  clear hK K
  refine norm_ (a' := ?_) ?_ ?_
  rotate_left
  · show Act.put _ (some 11) _ = _
    simp only [Act.put, List.setIfInBounds_toArray, List.set_cons_zero, List.set_cons_succ, i64_w, i32_w]
    rfl
  refine pure_ (i := 8) (N := some 12) (v := ?_) (a' := ?_) #[true, true, true, true, true, true, true, true, true, false, false] rfl rfl (by kernel_rfl) (fun _ _ _ h => h) (Or.inl ⟨by rfl, ?_⟩) ?_ ?_
  rotate_left
  · intro w'
    go_simp
    with_reducible rfl
  rotate_left
  · simp only [Act.put, List.setIfInBounds_toArray, List.set_cons_zero, List.set_cons_succ, i64_w, i32_w]
    rfl
  refine pure_ (i := 9) (N := some 13) (v := ?_) (a' := ?_) #[true, true, true, true, true, true, true, true, true, true, false] rfl rfl (by kernel_rfl) (fun _ _ _ h => h) (Or.inl ⟨by rfl, ?_⟩) ?_ ?_
  rotate_left
  · intro w'
    go_simp
    with_reducible rfl
  rotate_left
  · simp only [Act.put, List.setIfInBounds_toArray, List.set_cons_zero, List.set_cons_succ, i64_w, i32_w]
    rfl
  refine last_ (i := 10) (N := none) #[true, true, true, true, true, true, true, true, true, true, true] rfl rfl (by kernel_rfl) (by decide) (fun K hK => ?_)
  refine skip_ (w1 := ?_) (by rfl) rfl ?_ ?_
  rotate_left
  · go_simp
    rfl
  refine hK.out _ _ ?_
  clear hK K
  refine done_ (by kernel_rfl) ?_

  have hfin : MS (w3.setCell ⟨B, 19, none⟩ (.slice (some ⟨g', 0, none⟩) (n + 1) cap')) base B s p st (its ++ [x]) d0 d1 := by
    refine ⟨o, _, hM3.out.set 19 _ rfl, ?_, hb, HST.out⟩
    have h1 : w3.ownsRow base 38 4 (.slice (some ⟨g', 0, none⟩) (n + 1) cap') (n + 1) (flat its ++ itc x) := hown
    have h2 := h1.kept (grown_set w3 B 19 (.slice (some ⟨g', 0, none⟩) (n + 1) cap')) (.inr (own38_ne h1 hM3.out))
    rw [List.length_append, hn'.out, flat_append]
    simpa [flat] using h2
  have hbel : Below base w (w3.setCell ⟨B, 19, none⟩ (.slice (some ⟨g', 0, none⟩) (n + 1) cap')) := by
    have h1 : Below base w w1 := hB1.out.mono hbw
    have h2 := ((h1.alloc (by have := hz1.out; omega) (.cells #[.int .i64 x.f0, .int .i64 x.f1, .string x.f2, .int .i64 x.f3] 38)).drew)
    have h3 := h2.grown hgrow (by have := hz1.out; simp; omega) (fun k hk => (HO.out.lt k hk).1)
    exact h3.setCell (p := ⟨B, 19, none⟩) hb _
  have HF := Aside0.mk (And.intro hfin hbel)
  clear hfin hbel hown hgrow f3 c3 hM3
  go_wp2_with fail
  go_end0
  exact ⟨rfl, HF.out⟩
end Go.Proofs.YtainnkpoibgkcaaDoor
