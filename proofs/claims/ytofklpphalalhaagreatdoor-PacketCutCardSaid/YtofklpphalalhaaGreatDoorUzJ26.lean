/- Texts of this claim, joined: GivenL, LwP. Each as it was, cut to what the claim uses. Conditions: each theorem's own. -/
import Derived.Test.YtofklpphalalhaaGreatDoorUzJ25
import Derived.Test.YtofklpphalalhaaGreatDoorUzJ9
import Derived.Test.YtofklpphalalhaaGreatDoorUzJ11
import Derived.Test.YtofklpphalalhaaGreatDoorUzJ18
import Derived.Test.YtofklpphalalhaaGreatDoorUzSm22
section
namespace Go.Proofs.YtofklpphalalhaaGreatDoor
set_option linter.unusedVariables false
set_option linter.unusedSimpArgs false
open Go.RowKit Go.Proofs.YtofklpphalalhaaGreatDoor.PAll Go.Proofs.YtofklpphalalhaaGreatDoorW.PrintWords Go.Proofs.YtofklpphalalhaaGreatDoorW.PrintLast Go.Proofs.YtofklpphalalhaaGreatDoorW.PrintMore
theorem info128 : (Tryz.prog.info? 128).map (fun i => (i.zero, i.size, i.bytes)) = some (some (.agg #[.int .i64 0, .int .i64 0, .int .i64 0, .int .i64 0, .int .i64 0, .int .i64 0, .int .i64 0]), 7, 56) := by kernel_rfl
theorem map_take_next (l : List S71) (k : Nat) (hk : k < l.length) : (l.take (k + 1)).map rn = (l.take k).map rn ++ [rn (rd_T71 l k)] := by
  unfold rd_T71
  rw [List.take_succ_eq_append_getElem hk, List.map_append, Int.toNat_natCast, List.getD_eq_getElem?_getD, List.getElem?_eq_getElem hk]
  rfl
/-- The block of an instance of the document. -/
def yB (x : Cn.In) (v6 v7 : Value) : Obj := .cells #[.string x.nm, .int .i64 x.kind, .int .i64 x.metric, .int .i64 x.scale, .int .i64 x.cap, .int .i64 x.fleet, v6, v7] 51
/-- What its has: the box, the answer's block, y's block, and y's own row. -/
def IT (w W : World) (x : Cn.In) (v6 v7 u6 : Value) (k : Nat) : Prop :=
  W.heap[w.heap.size]? = some (inB x v6 v7) ∧ W.heap[w.heap.size + 1]? = some (yB Cn.zero (.slice none 0 0) (.slice none 0 0)) ∧ W.heap[w.heap.size + 2]? = some (yB x u6 v7) ∧ Kd.R k128 128 W w.heap.size (fun _ => True) u6 ((x.nodes.take k).map rn) ∧ Below w.heap.size w W
section
variable {w W : World} {x : Cn.In} {v6 v7 u6 : Value} {k : Nat}
theorem IT.bel (h : IT w W x v6 v7 u6 k) : Below w.heap.size w W := h.2.2.2.2
theorem IT.row (h : IT w W x v6 v7 u6 k) : Kd.R k128 128 W w.heap.size (fun _ => True) u6 ((x.nodes.take k).map rn) := h.2.2.2.1
theorem IT.c6 (h : IT w W x v6 v7 u6 k) : W.cell? ⟨w.heap.size, 6, none⟩ = some v6 := by rw [Lib.cell_of_heap h.1]; rfl
theorem IT.y6 (h : IT w W x v6 v7 u6 k) : W.cell? ⟨w.heap.size + 2, 6, none⟩ = some u6 := by rw [Lib.cell_of_heap h.2.2.1]; rfl
theorem IT.drew (h : IT w W x v6 v7 u6 k) : IT w W.drew x v6 v7 u6 k := ⟨h.1, h.2.1, h.2.2.1, Kd.R_below h.row ((Below.refl _ _).drew), h.bel.drew⟩
theorem IT.grown {v : Value} {w1 : World} (h : IT w W x v6 v7 u6 k) (hg : W.grownBy w1 u6.ownBlock) (hb : Below w.heap.size w w1) {l : List S128} (hR : Kd.R k128 128 w1 w.heap.size (fun _ => True) v l) :
    w1.heap[w.heap.size]? = some (inB x v6 v7) ∧ w1.heap[w.heap.size + 1]? = some (yB Cn.zero (.slice none 0 0) (.slice none 0 0)) ∧ w1.heap[w.heap.size + 2]? = some (yB x u6 v7) := by
  obtain ⟨h1, h2, h3, h4, h5⟩ := h
  refine ⟨?_, ?_, ?_⟩
  · exact (hg.block _ (Array.getElem?_eq_some_iff.1 h1).1 (Kd.R_ne h4 h1 (by decide))).trans h1
  · exact (hg.block _ (Array.getElem?_eq_some_iff.1 h2).1 (Kd.R_ne h4 h2 (by decide))).trans h2
  · exact (hg.block _ (Array.getElem?_eq_some_iff.1 h3).1 (Kd.R_ne h4 h3 (by decide))).trans h3
theorem IT.set {w1 : World} {v : Value} {k' : Nat} (h1 : w1.heap[w.heap.size]? = some (inB x v6 v7)) (h2 : w1.heap[w.heap.size + 1]? = some (yB Cn.zero (.slice none 0 0) (.slice none 0 0))) (h3 : w1.heap[w.heap.size + 2]? = some (yB x u6 v7)) (hb : Below w.heap.size w w1) (hR : Kd.R k128 128 w1 w.heap.size (fun _ => True) v ((x.nodes.take k').map rn)) :
    IT w (w1.setCell ⟨w.heap.size + 2, 6, none⟩ v) x v6 v7 v k' := by
  refine ⟨?_, ?_, blk_put h3 6 v rfl, Kd.R_set hR h3 (by decide) 6 v, hb.setCell (p := ⟨w.heap.size + 2, 6, none⟩) (by simp) _⟩
  · rw [Below.heap_setCell _ _ _ _ (by simp)]; exact h1
  · rw [Below.heap_setCell _ _ _ _ (by simp)]; exact h2
end
theorem its_start (w : World) (x : Cn.In) (v6 v7 : Value) : IT w (((w.alloc (inB x v6 v7)).alloc (yB Cn.zero (.slice none 0 0) (.slice none 0 0))).alloc (yB x (.slice none 0 0) v7)) x v6 v7 (.slice none 0 0) 0 := by
  have e1 : (w.alloc (inB x v6 v7)).heap.size = w.heap.size + 1 := by simp
  have e2 : ((w.alloc (inB x v6 v7)).alloc (yB Cn.zero (.slice none 0 0) (.slice none 0 0))).heap.size = w.heap.size + 2 := by simp
  have h2 := two_blocks w (inB x v6 v7) (yB Cn.zero (.slice none 0 0) (.slice none 0 0))
  have hb := below_one ((w.alloc (inB x v6 v7)).alloc (yB Cn.zero (.slice none 0 0) (.slice none 0 0))) (yB x (.slice none 0 0) v7)
  refine ⟨(hb.block _ (by omega)).trans h2.1, (hb.block _ (by omega)).trans h2.2, ?_, Kd.R_nil _ _ _ _ _, (below_two w _ _).trans (hb.mono (by omega))⟩
  rw [← e2]
  exact Array.getElem?_push_size
set_option maxRecDepth 100000 in
set_option maxHeartbeats 16000000 in
theorem its22_walk (x : Cn.In) (A6 A7 : Option Addr) (c6 c7 : Nat) (w : World) (hn : x.nodes.length ≤ 420) (hC6 : Kd.C k71 w A6 x.nodes.length x.nodes) :
    Calls Tryz.prog 29 #[inV x (.slice A6 x.nodes.length c6) (.slice A7 x.mx.length c7)] w fun e w' => ∃ u6, e = .returned (.agg #[.string x.nm, .int .i64 x.kind, .int .i64 x.metric, .int .i64 x.scale, .int .i64 x.cap, .int .i64 x.fleet, u6, .slice A7 x.mx.length c7]) ∧ Kd.R k128 128 w' w.heap.size (fun _ => True) u6 (x.nodes.map rn) ∧ Below w.heap.size w w' := by
  have HC6 := Aside0.mk hC6
  have HS0 := Aside0.mk (its_start w x (.slice A6 x.nodes.length c6) (.slice A7 x.mx.length c7))
  clear hC6
  go_enter Tryz.func29, Tryz.ntmps29
  go_wp2_with fail
  go_loopw [4] (fun v wr => ∃ (k : Nat) (u6 : Value), k ≤ x.nodes.length ∧ v = .int .i64 k ∧ IT w wr x (.slice A6 x.nodes.length c6) (.slice A7 x.mx.length c7) u6 k) (fun v _ => x.nodes.length - (intOf v).toNat)
  case atStart => exact ⟨0, _, Nat.zero_le _, rfl, HS0.out⟩
  case round =>
    obtain ⟨k, u6, hk, rfl, hs⟩ := hrel
    have HS := Aside0.mk hs
    have c6' := hs.c6
    clear hs HS0
    by_cases hlt : k < x.nodes.length
    · have hdl : (k : Int) < (x.nodes.length : Int) := by omega
      have h420 : (k : Int) < 420 := by omega
      obtain ⟨ad, e, x0, x1, x2, x3, x4, x5, x6⟩ := at_T71 (Kd.C_below HC6.out HS.out.bel) (k : Int) (by omega) (by omega)
      subst e
      simp only [Int.toNat_natCast] at x0 x1 x2 x3 x4 x5 x6
      have hnx := map_take_next x.nodes k hlt
      obtain ⟨d, hd⟩ : ∃ d, rd_T71 x.nodes k = d := ⟨_, rfl⟩
      rw [hd] at x0 x1 x2 x3 x4 x5 x6 hnx
      have HNX := Aside0.mk hnx
      have y6' := HS.out.y6
      have hln : ((x.nodes.take k).map rn).length = k := by rw [List.length_map, List.length_take]; omega
      have HLN := Aside0.mk hln
      obtain ⟨Au, cu, eu⟩ := Kd.R_slice HS.out.row
      rw [hln] at eu
      subst eu
      clear hnx hd hln
      go_wp2_with fail
      refine start_ (n := 11) (S := fun w' => w'.cell? ⟨w.heap.size, 6, none⟩ = some (.slice (some ad) x.nodes.length c6) ∧ w'.cell? ⟨w.heap.size + 2, 6, none⟩ = some (.slice Au k cu) ∧ w'.cell? (ad.add (k * 7)) = some (.int .i64 d.f0) ∧ w'.cell? ⟨(ad.add (k * 7)).block, (ad.add (k * 7)).off + 1, none⟩ = some (.int .i64 d.f1) ∧ w'.cell? ⟨(ad.add (k * 7)).block, (ad.add (k * 7)).off + 2, none⟩ = some (.int .i64 d.f2) ∧ w'.cell? ⟨(ad.add (k * 7)).block, (ad.add (k * 7)).off + 3, none⟩ = some (.int .i64 d.f3) ∧ w'.cell? ⟨(ad.add (k * 7)).block, (ad.add (k * 7)).off + 4, none⟩ = some (.int .i64 d.f4) ∧ w'.cell? ⟨(ad.add (k * 7)).block, (ad.add (k * 7)).off + 5, none⟩ = some (.int .i64 d.f5) ∧ w'.cell? ⟨(ad.add (k * 7)).block, (ad.add (k * 7)).off + 6, none⟩ = some (.int .i64 d.f6)) (ds := [8, 10]) #[false, false, false, false, false, false, false, false, false, false, false] (by kernel_rfl) rfl rfl ⟨c6', y6', x0, x1, x2, x3, x4, x5, x6⟩ (fun hHeld => ?_)
      refine pure_ (i := 0) (N := some 31) (v := ?_) (a' := ?_) #[true, false, false, false, false, false, false, false, false, false, false] rfl rfl (by kernel_rfl) (fun _ _ _ h => h) (Or.inl ⟨by rfl, ?_⟩) ?_ ?_
      rotate_left
      · intro w'
        go_simp
        with_reducible rfl
      rotate_left
      · simp only [Act.put, List.setIfInBounds_toArray, List.set_cons_zero, List.set_cons_succ, i64_w, i32_w]
        rfl
      refine pure_ (i := 2) (N := some 33) (v := ?_) (a' := ?_) #[true, false, true, false, false, false, false, false, false, false, false] rfl rfl (by kernel_rfl) (fun _ _ _ h => h) (Or.inl ⟨by rfl, ?_⟩) ?_ ?_
      rotate_left
      · intro w'
        go_simp
        with_reducible rfl
      rotate_left
      · simp only [Act.put, List.setIfInBounds_toArray, List.set_cons_zero, List.set_cons_succ, i64_w, i32_w]
        rfl
      refine pure_ (i := 4) (N := some 35) (v := ?_) (a' := ?_) #[true, false, true, false, true, false, false, false, false, false, false] rfl rfl (by kernel_rfl) (fun _ _ _ h => h) (Or.inl ⟨by rfl, ?_⟩) ?_ ?_
      rotate_left
      · intro w'
        go_simp
        with_reducible rfl
      rotate_left
      · simp only [Act.put, List.setIfInBounds_toArray, List.set_cons_zero, List.set_cons_succ, i64_w, i32_w]
        rfl
      refine take_ (i := 1) (N := some 32) (v := ?_) (a' := ?_) #[true, true, true, false, true, false, false, false, false, false, false] rfl rfl (by kernel_rfl) (fun _ _ _ h => h) (Or.inl ⟨by rfl, ?_⟩) hHeld ?_ ?_
      rotate_left
      · rintro w' ⟨s0, s1, s2, s3, s4, s5, s6, s7, s8⟩
        go_simp
        with_reducible rfl
      rotate_left
      · simp only [Act.put, List.setIfInBounds_toArray, List.set_cons_zero, List.set_cons_succ, i64_w, i32_w]
        rfl
      refine take_ (i := 3) (N := some 34) (v := ?_) (a' := ?_) #[true, true, true, true, true, false, false, false, false, false, false] rfl rfl (by kernel_rfl) (fun _ _ _ h => h) (Or.inl ⟨by rfl, ?_⟩) hHeld ?_ ?_
      rotate_left
      · rintro w' ⟨s0, s1, s2, s3, s4, s5, s6, s7, s8⟩
        go_simp
        with_reducible rfl
      rotate_left
      · simp only [Act.put, List.setIfInBounds_toArray, List.set_cons_zero, List.set_cons_succ, i64_w, i32_w]
        rfl
      refine pure_ (i := 5) (N := some 36) (v := ?_) (a' := ?_) #[true, true, true, true, true, true, false, false, false, false, false] rfl rfl (by kernel_rfl) (fun _ _ _ h => h) (Or.inl ⟨by rfl, ?_⟩) ?_ ?_
      rotate_left
      · intro w'
        go_simp
        with_reducible rfl
      rotate_left
      · simp only [Act.put, List.setIfInBounds_toArray, List.set_cons_zero, List.set_cons_succ, i64_w, i32_w]
        rfl
      refine take_ (i := 6) (N := some 37) (v := ?_) (a' := ?_) #[true, true, true, true, true, true, true, false, false, false, false] rfl rfl (by kernel_rfl) (fun _ _ _ h => h) (Or.inl ⟨by rfl, ?_⟩) hHeld ?_ ?_
      rotate_left
      · rintro w' ⟨s0, s1, s2, s3, s4, s5, s6, s7, s8⟩
        go_simp
        with_reducible rfl
      rotate_left
      · simp only [Act.put, List.setIfInBounds_toArray, List.set_cons_zero, List.set_cons_succ, i64_w, i32_w]
        rfl
      refine one_ (i := 7) (N := some 38) #[true, true, true, true, true, true, true, true, false, false, false] rfl rfl (by kernel_rfl) (by decide) (fun K hK => ?_)
      refine value_ (w1 := ?_) (v := ?_) (by rfl) rfl ?_ ?_
      rotate_left 2
      · go_simp
        constructor
        · rfl
        · rfl
      refine hK.out _ _ ⟨cell_alloc c6', cell_alloc y6', cell_alloc x0, cell_alloc x1, cell_alloc x2, cell_alloc x3, cell_alloc x4, cell_alloc x5, cell_alloc x6⟩ (fun hHeld => ?_)
      clear hK K
      refine norm_ (a' := ?_) ?_ ?_
      rotate_left
      · show Act.put _ (some 38) _ = _
        simp only [Act.put, List.setIfInBounds_toArray, List.set_cons_zero, List.set_cons_succ, i64_w, i32_w]
        rfl
      refine last_ (i := 8) (N := some 39) #[true, true, true, true, true, true, true, true, true, false, false] rfl rfl (by kernel_rfl) (by decide) (fun K hK => ?_)
      refine Kd.R_append_step k128 (w0 := w) w.heap.size (by rfl) _ _ 49 128 _ 56 (by rfl) Tryz.underlying49 info128 rfl (by decide) (by decide) (.slice Au k cu) _ (rn d) (ncs d) (fun _ => True) (fun _ => False) (by rfl) (by rfl) (k128_mkM _ _ _ (rn d)) (fun k hk => hk.elim) (fun _ _ => trivial) HS.out.drew.row HS.out.drew.bel HS.out.bel.size (by rw [HLN.out]; omega) ?_
      intro v1 w3 hR1 hb1 hg1 hat1
      obtain ⟨A1, c1, e1⟩ := Kd.R_slice hR1
      have hl1 : ((x.nodes.take k).map rn ++ [rn d]).length = k + 1 := by rw [List.length_append, HLN.out]; rfl
      rw [hl1] at e1
      subst e1
      have hE := Aside0.mk (HS.out.drew.grown hg1 hb1 hR1)
      have hB3 := Aside0.mk hb1
      have hR3 := Aside0.mk hR1
      have f3 := Lib.frozen_of_heap hE.out.2.2 6
      have y3 : w3.cell? ⟨w.heap.size + 2, 6, none⟩ = some (.slice Au k cu) := by rw [Lib.cell_of_heap hE.out.2.2]; rfl
      clear hR1 hb1 hg1 hat1
      refine hK.out _ _ ?_
      clear hK K
      refine norm_ (a' := ?_) ?_ ?_
      rotate_left
      · show Act.put _ (some 39) _ = _
        simp only [Act.put, List.setIfInBounds_toArray, List.set_cons_zero, List.set_cons_succ, i64_w, i32_w]
        rfl
      refine pure_ (i := 9) (N := some 40) (v := ?_) (a' := ?_) #[true, true, true, true, true, true, true, true, true, true, false] rfl rfl (by kernel_rfl) (fun _ _ _ h => h) (Or.inl ⟨by rfl, ?_⟩) ?_ ?_
      rotate_left
      · intro w'
        go_simp
        with_reducible rfl
      rotate_left
      · simp only [Act.put, List.setIfInBounds_toArray, List.set_cons_zero, List.set_cons_succ, i64_w, i32_w]
        rfl
      refine last_ (i := 10) (N := none) #[true, true, true, true, true, true, true, true, true, true, true] rfl rfl (by kernel_rfl) (by decide) (fun K hK => ?_)
      refine skip_ (w1 := ?_) (by rfl) rfl ?_ ?_
      rotate_left
      · go_simp
        rfl
      refine hK.out _ _ ?_
      clear hK K
      refine done_ (by kernel_rfl) ?_
      have HIT : Aside0 (IT w (w3.setCell ⟨w.heap.size + 2, 6, none⟩ (.slice A1 (k + 1) c1)) x (.slice (some ad) x.nodes.length c6) (.slice A7 x.mx.length c7) (.slice A1 (k + 1) c1) (k + 1)) := ⟨IT.set hE.out.1 hE.out.2.1 hE.out.2.2 hB3.out (by rw [HNX.out]; exact hR3.out)⟩
      clear hE hB3 hR3 HNX HLN
      go_wp2_with fail
      go_roundw
      case rel => exact ⟨k + 1, _, by omega, by go_num, HIT.out⟩
      case measure => simp [intOf]; omega
    · have hdl : ¬ ((k : Int) < (x.nodes.length : Int)) := by omega
      obtain rfl : k = x.nodes.length := by omega
      have hR := HS.out.row
      rw [List.take_length] at hR
      have HR := Aside0.mk hR
      obtain ⟨Au, cu, eu⟩ := Kd.R_slice hR
      rw [List.length_map] at eu
      subst eu
      obtain ⟨d0, d1, d2, d3, d4, d5, d6, d7⟩ : wr.cell? ⟨w.heap.size + 2, 0, none⟩ = some (.string x.nm) ∧ wr.cell? ⟨w.heap.size + 2, 1, none⟩ = some (.int .i64 x.kind) ∧ wr.cell? ⟨w.heap.size + 2, 2, none⟩ = some (.int .i64 x.metric) ∧ wr.cell? ⟨w.heap.size + 2, 3, none⟩ = some (.int .i64 x.scale) ∧ wr.cell? ⟨w.heap.size + 2, 4, none⟩ = some (.int .i64 x.cap) ∧ wr.cell? ⟨w.heap.size + 2, 5, none⟩ = some (.int .i64 x.fleet) ∧ wr.cell? ⟨w.heap.size + 2, 6, none⟩ = some (.slice Au x.nodes.length cu) ∧ wr.cell? ⟨w.heap.size + 2, 7, none⟩ = some (.slice A7 x.mx.length c7) := by
        refine ⟨?_, ?_, ?_, ?_, ?_, ?_, ?_, ?_⟩ <;> (rw [Lib.cell_of_heap HS.out.2.2.1]; rfl)
      clear hR
      go_wp2_with (refine gate_ (.store 51 (.tmp 2) (.tmp 41)) rfl ?_; refine wpList_store_all rfl rfl 51 (.tmp 2) (.tmp 41) rfl HS.out.2.1 (by rfl) _ [.string x.nm, .int .i64 x.kind, .int .i64 x.metric, .int .i64 x.scale, .int .i64 x.cap, .int .i64 x.fleet, .slice Au x.nodes.length cu, .slice A7 x.mx.length c7] (by rfl) rfl (by kernel_rfl) rfl (by intro q hq; simp only [List.mem_cons, List.not_mem_nil, or_false] at hq; rcases hq with rfl | rfl | rfl | rfl | rfl | rfl | rfl | rfl <;> rfl) ?_)
      intro w1 hb1 hg1
      have HB1 : Aside0 (Below w.heap.size w w1) := ⟨HS.out.bel.grown hg1 HS.out.bel.size (by intro k hk; injection hk; omega)⟩
      have HR1 : Aside0 (Kd.R k128 128 w1 w.heap.size (fun _ => True) (.slice Au x.nodes.length cu) (x.nodes.map rn)) := ⟨Kd.R_mono (Kd.R_grown (Kd.R_types HR.out HS.out.2.1 (by decide)) hg1 (fun k hk e => hk.2 (by injection e))) (fun _ _ => trivial)⟩
      clear d0 d1 d2 d3 d4 d5 d6 d7 hg1 HS HR
      go_wp2_with fail
      refine bodyPost_ret (results_cell_row rfl _ _ (w.heap.size + 1) 51 #[.string x.nm, .int .i64 x.kind, .int .i64 x.metric, .int .i64 x.scale, .int .i64 x.cap, .int .i64 x.fleet, .slice Au x.nodes.length cu, .slice A7 x.mx.length c7] (0, 0) _ rfl hb1 Tryz.underlying51 rfl (by kernel_rfl)) rfl ?_
      exact ⟨_, rfl, HR1.out, HB1.out⟩
/-- Is it well-formed, and not too much to look at? -/
def wl (x : Cn.In) : Bool := decide (x.nodes.length ≤ 60) && decide (x.mx.length ≤ 400) && decide (x.nm.size ≤ 100) && (Cn.check x).isEmpty
set_option maxRecDepth 100000 in
set_option maxHeartbeats 8000000 in
theorem well08_walk (x : Cn.In) (A6 A7 : Option Addr) (c6 c7 : Nat) (w : World) (hn : x.nm.size ≤ 1000000000) (h6 : x.nodes.length ≤ 1000000000) (ho : ∀ d ∈ x.nodes, NodeOk d) (hc6 : x.nodes.length ≤ c6) (hc7 : x.mx.length ≤ c7) (hC6 : Kd.C k128 w A6 x.nodes.length (x.nodes.map rn)) (hC7 : Kd.C (Kd.int .i64) w A7 x.mx.length x.mx) :
    Calls Tryz.prog 45 #[.agg #[.string x.nm, .int .i64 x.kind, .int .i64 x.metric, .int .i64 x.scale, .int .i64 x.cap, .int .i64 x.fleet, .slice A6 x.nodes.length c6, .slice A7 x.mx.length c7]] w fun e w' => e = .returned (.bool (Cn.check x).isEmpty) ∧ Below w.heap.size w w' := by
  have hb := below_one w (yB x (.slice A6 x.nodes.length c6) (.slice A7 x.mx.length c7))
  have hl : (x.nodes.map rn).length = x.nodes.length := List.length_map _
  have hck := refCheck_walk x (x.nodes.map rn) (RF_of x hn ho) A6 A7 c6 c7 (w.alloc (yB x (.slice A6 x.nodes.length c6) (.slice A7 x.mx.length c7))) h6 (by rw [hl]; exact hc6) hc7 (by rw [hl]; exact Kd.C_below hC6 hb) (Kd.C_below hC7 hb)
  rw [hl] at hck
  have HCK := Aside0.mk hck
  have HB := Aside0.mk hb
  clear hck hb hl hC6 hC7 ho
  go_enter Tryz.func45, Tryz.ntmps45
  go_wp2_with fail
  refine HCK.out.mono ?_
  rintro e w1 ⟨v, rfl, ho, hb1⟩
  obtain ⟨A, c, rfl⟩ := own_slice ho
  have HB1 := Aside0.mk (HB.out.trans (hb1.mono (by simp)))
  clear ho hb1 HCK HB
  have HE : Aside0 ((((Cn.check x).length : Int) == 0) = (Cn.check x).isEmpty) := ⟨by rw [Bool.eq_iff_iff]; simp⟩
  go_wp2_with fail
  go_ret
  exact ⟨by rw [← HE.out] <;> rfl, HB1.out⟩
set_option maxRecDepth 100000 in
set_option maxHeartbeats 8000000 in
theorem well22_walk (x : Cn.In) (A6 A7 : Option Addr) (c6 c7 : Nat) (w : World) (ho : ∀ d ∈ x.nodes, NodeOk d) (hc7 : x.mx.length ≤ c7) (hC6 : Kd.C k71 w A6 x.nodes.length x.nodes) (hC7 : Kd.C (Kd.int .i64) w A7 x.mx.length x.mx) :
    Calls Tryz.prog 24 #[inV x (.slice A6 x.nodes.length c6) (.slice A7 x.mx.length c7)] w fun e w' => e = .returned (.bool (wl x)) ∧ Below w.heap.size w w' := by
  have hb := below_one w (inB x (.slice A6 x.nodes.length c6) (.slice A7 x.mx.length c7))
  have HB := Aside0.mk hb
  unfold wl
  by_cases h1 : x.nodes.length ≤ 60
  · have e1 : (x.nodes.length : Int) ≤ 60 := by omega
    by_cases h2 : x.mx.length ≤ 400
    · have e2 : (x.mx.length : Int) ≤ 400 := by omega
      by_cases h3 : x.nm.size ≤ 100
      · have e3 : (x.nm.size : Int) ≤ 100 := by omega
        have hit := its22_walk x A6 A7 c6 c7 (w.alloc (inB x (.slice A6 x.nodes.length c6) (.slice A7 x.mx.length c7))) (by omega) (Kd.C_below hC6 hb)
        have HIT := Aside0.mk hit
        have HC7 := Aside0.mk (Kd.C_below hC7 hb)
        have HO := Aside0.mk ho
        have HR : Aside0 ((decide (x.nodes.length ≤ 60) && decide (x.mx.length ≤ 400) && decide (x.nm.size ≤ 100) && (Cn.check x).isEmpty) = (Cn.check x).isEmpty) := ⟨by rw [decide_eq_true h1, decide_eq_true h2, decide_eq_true h3]; simp⟩
        clear hit hb hC6 hC7 ho
        go_enter Tryz.func24, Tryz.ntmps24
        go_wp2_with fail
        refine HIT.out.mono ?_
        rintro e w1 ⟨u6, rfl, hR, hb1⟩
        obtain ⟨Au, cu, eu, hcu, hCu⟩ := Kd.R_reads hR
        rw [List.length_map] at eu hcu hCu
        subst eu
        have hw8 := well08_walk x Au A7 cu c7 w1 (by omega) (by omega) HO.out hcu hc7 hCu (Kd.C_below HC7.out hb1)
        have HW8 := Aside0.mk hw8
        have HB1 := Aside0.mk (HB.out.trans (hb1.mono (by simp)))
        clear hR hb1 hCu hw8 HIT HC7 HO
        go_wp2_with fail
        refine HW8.out.mono ?_
        rintro e w2 ⟨rfl, hb2⟩
        have HB2 := Aside0.mk (HB1.out.trans (hb2.mono HB1.out.size))
        clear hb2 HW8
        go_wp2_with fail
        go_ret
        exact ⟨by first | rfl | (rw [HR.out] <;> rfl), HB2.out⟩
      · have e3 : ¬ (x.nm.size : Int) ≤ 100 := by omega
        have HR : Aside0 ((decide (x.nodes.length ≤ 60) && decide (x.mx.length ≤ 400) && decide (x.nm.size ≤ 100) && (Cn.check x).isEmpty) = false) := ⟨by rw [decide_eq_false h3]; simp⟩
        clear hb hC6 hC7 ho
        go_enter Tryz.func24, Tryz.ntmps24
        go_wp2_with fail
        go_ret
        exact ⟨by first | rfl | (rw [HR.out] <;> rfl), HB.out⟩
    · have e2 : ¬ (x.mx.length : Int) ≤ 400 := by omega
      have HR : Aside0 ((decide (x.nodes.length ≤ 60) && decide (x.mx.length ≤ 400) && decide (x.nm.size ≤ 100) && (Cn.check x).isEmpty) = false) := ⟨by rw [decide_eq_false h2]; simp⟩
      clear hb hC6 hC7 ho
      go_enter Tryz.func24, Tryz.ntmps24
      go_wp2_with fail
      go_ret
      exact ⟨by first | rfl | (rw [HR.out] <;> rfl), HB.out⟩
  · have e1 : ¬ (x.nodes.length : Int) ≤ 60 := by omega
    have HR : Aside0 ((decide (x.nodes.length ≤ 60) && decide (x.mx.length ≤ 400) && decide (x.nm.size ≤ 100) && (Cn.check x).isEmpty) = false) := ⟨by rw [decide_eq_false h1]; simp⟩
    clear hb hC6 hC7 ho
    go_enter Tryz.func24, Tryz.ntmps24
    go_wp2_with fail
    go_ret
    exact ⟨by first | rfl | (rw [HR.out] <;> rfl), HB.out⟩
end Go.Proofs.YtofklpphalalhaaGreatDoor
end
section
namespace Go.Proofs.YtofklpphalalhaaGreatDoor
set_option linter.unusedVariables false
set_option linter.unusedSimpArgs false
open Go.RowKit Go.Proofs.YtofklpphalalhaaGreatDoor.PAll Go.Proofs.YtofklpphalalhaaGreatDoorW.PrintWords Go.Proofs.YtofklpphalalhaaGreatDoorW.PrintLast Go.Proofs.YtofklpphalalhaaGreatDoorW.PrintMore
namespace Cn
theorem nt_nil {b : Bool} {f n : Int} (h : nt b f n = []) : b = true := by
  unfold nt at h
  by_cases hb : b = true
  · exact hb
  · rw [if_neg hb] at h; cases h
theorem btw_in {n a b : Int} (h : btw n a b = true) : a ≤ n ∧ n ≤ b := of_decide_eq_true h
theorem limit_in {x : In} {n a b : Int} (h : limit x n a b = true) (ha : 0 ≤ a) (hb : 0 ≤ b) : 0 ≤ n ∧ n ≤ b := by
  unfold limit at h
  split at h
  · have := beq_iff_eq.1 h; omega
  · have := btw_in h; omega
theorem or0 {a b : Int} (ha : InI a) (hb : InI b) (h : (bits .or .i64 a b == 0) = true) : a = 0 ∧ b = 0 := by
  rw [or_zero a b ha hb, Bool.and_eq_true, beq_iff_eq, beq_iff_eq] at h; exact h
theorem node_in (x : In) (i : Nat) (ho : NodeOk (rd_T71 x.nodes i)) (hl : x.nodes.length ≤ 400) (h : nodeF x i = []) : Rr.NodeP (rd_T71 x.nodes i) := by
  unfold nodeF at h
  obtain ⟨d, hd⟩ : ∃ d, rd_T71 x.nodes i = d := ⟨_, rfl⟩
  rw [hd] at h ho ⊢
  simp only [List.append_eq_nil_iff] at h
  obtain ⟨⟨⟨⟨h1, h2⟩, h3⟩, h4⟩, h5⟩ := h
  replace h1 := nt_nil h1
  replace h2 := nt_nil h2
  replace h3 := nt_nil h3
  replace h4 := nt_nil h4
  replace h5 := nt_nil h5
  obtain ⟨o0, o1, o2, o3, o4, o5, o6⟩ := ho
  unfold coord sgn at h1
  simp only [Bool.and_eq_true] at h1
  have g0 := btw_in h1.1.1
  have g1 := btw_in h1.1.2
  have g2 : -100000000 ≤ d.f2 ∧ d.f2 ≤ 100000000 := by
    unfold demand sgn num at h2
    split at h2
    · have := beq_iff_eq.1 h2; omega
    · split at h2
      · have := btw_in h2; omega
      · have := btw_in h2; omega
  have g3 : (0 ≤ d.f3 ∧ d.f3 ≤ 100000000) ∧ (0 ≤ d.f4 ∧ d.f4 ≤ 100000000) := by
    unfold window num at h3
    split at h3
    · simp only [Bool.and_eq_true] at h3
      exact ⟨btw_in h3.1.1, btw_in h3.1.2⟩
    · have := or0 o3 o4 h3; omega
  have g5 : 0 ≤ d.f5 ∧ d.f5 ≤ 100000000 := by
    unfold service num at h4
    split at h4
    · exact btw_in h4
    · have := beq_iff_eq.1 h4; omega
  have g6 : 0 ≤ d.f6 ∧ d.f6 ≤ 100000000 := by
    unfold mate at h5
    split at h5
    · have := beq_iff_eq.1 h5; omega
    · split at h5
      · cases h5
      · rename_i hn; simp only [not_or, Decidable.not_not] at hn; omega
  intro y hy
  simp only [Pp.nums, List.mem_cons, List.mem_nil_iff, or_false] at hy
  unfold Rr.InP
  rcases hy with rfl | rfl | rfl | rfl | rfl | rfl | rfl <;> omega
end Cn
theorem check_nil (x : Cn.In) (ho : ∀ d ∈ x.nodes, NodeOk d) (h : Cn.check x = []) (hn : x.nm.size ≤ 1000) (hm : x.mx.length ≤ 1000) : Rr.InstP x := by
  unfold Cn.check at h
  by_cases hb : Cn.btw x.nodes.length 1 400 = true
  · rw [if_pos hb] at h
    have hb' := Cn.btw_in hb
    simp only [List.append_eq_nil_iff, Cn.heads] at h
    obtain ⟨⟨⟨⟨⟨⟨⟨h1, h2⟩, h3⟩, h4⟩, h5⟩, h6⟩, h7⟩, h8⟩ := h
    replace h2 := Cn.btw_in (Cn.nt_nil h2)
    replace h3 := Cn.nt_nil h3
    unfold Cn.known at h3
    replace h3 := Cn.btw_in h3
    replace h4 := Cn.nt_nil h4
    unfold Cn.scal at h4
    rw [Bool.and_eq_true] at h4
    replace h4 := Cn.btw_in h4.1
    replace h5 := Cn.limit_in (Cn.nt_nil h5) (by decide) (by decide)
    replace h6 := Cn.limit_in (Cn.nt_nil h6) (by decide) (by decide)
    replace h7 := Cn.nt_nil h7
    refine ⟨by omega, ?_, ?_, by omega, ?_, by omega⟩
    · intro n hn
      simp only [List.mem_cons, List.mem_nil_iff, or_false] at hn
      unfold Rr.InP
      rcases hn with rfl | rfl | rfl | rfl | rfl <;> omega
    · intro d hd
      obtain ⟨i, hi, rfl⟩ := List.mem_iff_getElem.1 hd
      have e : rd_T71 x.nodes (i : Int) = x.nodes[i] := by
        unfold rd_T71
        rw [Int.toNat_natCast, List.getD_eq_getElem?_getD, List.getElem?_eq_getElem hi]; rfl
      rw [← e]
      refine Cn.node_in x i (by rw [e]; exact ho _ hd) (by omega) ?_
      unfold Cn.nodesF at h8
      rw [List.flatMap_eq_nil_iff] at h8
      exact h8 i (List.mem_range.2 hi)
    · intro n hn
      unfold Cn.matrix at h7
      split at h7
      · simp only [Bool.and_eq_true, List.all_eq_true] at h7
        have := h7.2.1 n hn
        unfold Cn.num at this
        have := Cn.btw_in this
        unfold Rr.InP; omega
      · have := beq_iff_eq.1 h7
        rw [List.length_eq_zero_iff] at this
        rw [this] at hn; cases hn
  · rw [if_neg hb] at h; simp at h
structure WL (x : Cn.In) : Prop where
  p : Rr.InstP x
  c : Cn.check x = []
  l6 : x.nodes.length ≤ 60
  l7 : x.mx.length ≤ 400
  ln : x.nm.size ≤ 100
theorem wl_tells (x : Cn.In) (ho : ∀ d ∈ x.nodes, NodeOk d) (h : wl x = true) : WL x := by
  unfold wl at h
  simp only [Bool.and_eq_true, decide_eq_true_eq, List.isEmpty_iff] at h
  obtain ⟨⟨⟨h1, h2⟩, h3⟩, h4⟩ := h
  exact ⟨check_nil x ho h4 (by omega) (by omega), h4, h1, h2, h3⟩
theorem WL.told {x : Cn.In} (h : WL x) : Cn.told x = (Cn.norm x, []) := by
  unfold Cn.told; rw [if_pos h.c]
theorem WL.len {x : Cn.In} (h : WL x) : (Pp.inst x).length ≤ 9000 := by
  have h1 := Pp.ints_len [x.kind, x.metric, x.scale, x.cap, x.fleet]
  have h2 := Pp.nodes_len x.nodes
  have h3 := Pp.putUI_len x.nodes.length (by have := h.l6; omega)
  have h4 := Pp.putUI_len x.mx.length (by have := h.l7; omega)
  have h5 : (Pk.putT x.nm.data.toList).length ≤ 109 := by
    unfold Pk.putT
    have hn : x.nm.data.toList.length ≤ 100 := by rw [Evs.size_len]; exact h.ln
    have := Evs.putU_len9 x.nm.data.toList.length (by omega)
    rw [List.length_append]
    omega
  have h6 : [x.kind, x.metric, x.scale, x.cap, x.fleet].length = 5 := rfl
  have h7 := Pp.ints_len x.mx
  have h8 := h.l6
  have h9 := h.l7
  unfold Pp.inst Pp.list
  simp only [List.length_append, List.length_cons, List.length_nil] at *
  omega
theorem ok_rows {rs : List (List Int)} (h : Sm22.Ok rs) : ∀ r ∈ rs, Rr.RowP r := fun r hr => ⟨fun x hx => by have := (h.2.2 r hr).2 x hx; unfold Rr.InP; omega, by have := (h.2.2 r hr).1; omega⟩
theorem ok_len {rs : List (List Int)} (h : Sm22.Ok rs) : (Pp.plan rs).length ≤ 9000 := by
  have h1 := Pp.lists_len rs (fun r hr => by have := (h.2.2 r hr).1; omega)
  have h2 := Pp.putUI_len rs.length (by have := h.1; omega)
  have h3 := h.1
  have h4 := h.2.1
  unfold Pp.plan
  simp only [List.length_append, List.length_cons, List.length_nil] at *
  omega
theorem small_walk (rs : List (List Int)) : ∃ b : Bool, (b = true → Sm22.Ok rs) ∧ ∀ (A : Option Addr) (c : Nat) (w : World), Kd.C (Kd.slice 3 (Kd.int .i64)) w A rs.length rs → rs.length ≤ c → Calls Tryz.prog 25 #[.agg #[.slice A rs.length c]] w fun e w' => e = .returned (.bool b) ∧ Below w.heap.size w w' := by
  obtain ⟨b, ⟨k, hk⟩, h⟩ := Sm22.small rs
  exact ⟨b, h, fun A c w hC hc => entrepotlaw22_small.calls k A c rs b w hC hc hk⟩
theorem seal_walk (s : ByteArray) (hs : s.size ≤ 140737488351232) (w : World) : Calls Tryz.prog 34 #[.string s] w fun e w' => e = .returned (.string (Evs.S (Pk.shut s.data.toList))) ∧ Below w.heap.size w w' := by
  obtain ⟨k, hk⟩ := (Evs.refSealed s hs).rounds
  exact entrepotref21_Seal.calls k _ _ w hk
theorem same38 (a e : Int) (w : World) : Sem.run Tryz.prog (binOp .eql 38 (.agg #[.int .i64 a, .int .i64 e]) (.agg #[.int .i64 a, .int .i64 e])) w = .ok (.bool true) w := by have := eq38 (a, e) (a, e) w; simpa using this
theorem shut_take (l : List UInt8) : (Pk.shut l).take l.length = l := by unfold Pk.shut; simp
/-- One byte, as a string. -/
theorem byte_string (m : Int) (W : World) : Sem.run Tryz.prog (convert 59 9 (.slice (some ⟨W.heap.size, 0, none⟩) 1 1)) (W.alloc (.cells #[.int .u8 m] 5)) = .ok (.string (Evs.S [UInt8.ofNat m.toNat])) (W.alloc (.cells #[.int .u8 m] 5)) := by
  have hC : Kd.C (Kd.int .u8) (W.alloc (.cells #[.int .u8 m] 5)) (some ⟨W.heap.size, 0, none⟩) 1 [m] := by
    refine ⟨rfl, by decide, fun _ => ⟨_, rfl, fun j p hp => ?_⟩⟩
    match j, hp with
    | 0, hp =>
      obtain rfl : m = p := by simpa using hp
      refine ⟨[.int .u8 m], rfl, rfl, fun i u hu => ?_⟩
      match i, hu with
      | 0, hu =>
        simp only [List.getElem?_cons_zero, Option.some.injEq] at hu
        subst hu
        show World.cell? _ ⟨W.heap.size, 0, none⟩ = _
        rw [Lib.cell_of_heap (show (W.alloc (.cells #[.int .u8 m] 5)).heap[W.heap.size]? = some _ from Array.getElem?_push_size)]; rfl
    | j + 1, hp => simp at hp
  exact Kd.C_string (P := Tryz.prog) (src := 59) (dst := 9) (e := 5) (c := 1) Tryz.underlying59 Tryz.underlying5 Tryz.underlying9 hC
/-- A cut packet: what is sealed again. -/
theorem ext_take (l : List UInt8) (k : Nat) : (Evs.S l).extract 0 k = Evs.S (l.take k) := by rw [Evs.ext_S, show (Evs.S l).data.toList = l from rfl]; simp
end Go.Proofs.YtofklpphalalhaaGreatDoor
end
