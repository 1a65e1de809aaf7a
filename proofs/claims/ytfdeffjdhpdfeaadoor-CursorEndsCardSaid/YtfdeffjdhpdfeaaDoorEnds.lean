/- The law CursorEnds walked by hand: a line with either end is the same line. Conditions: texts of at most 140737488351232 bytes. -/
import Derived.Test.YtfdeffjdhpdfeaaDoorEvs
namespace Go.Proofs.YtfdeffjdhpdfeaaDoor.Ends
set_option linter.unusedVariables false
set_option linter.unusedSimpArgs false
open Go.RowKit Go.Proofs.YtfdeffjdhpdfeaaDoor.PAll Go.Proofs.YtfdeffjdhpdfeaaDoor.Evs Go.Proofs.YtfdeffjdhpdfeaaDoorW.PrintWords Go.Proofs.YtfdeffjdhpdfeaaDoorW.PrintLast

theorem shown_calls (w : World) : Calls Tryd.prog 9 #[] w fun e w' => e = .returned (.bool true) ∧ Below w.heap.size w w' := entrepotlaw01_shown.calls true w shown_ev
theorem lines_calls (s : ByteArray) (hs : s.size ≤ 1000000000) (xs : List Cur.Ln) (hx : Cur.lines s.data.toList = xs) (w : World) :
    Calls Tryd.prog 10 #[.string s] w fun e w' => (∃ v, e = .returned v ∧ w'.ownsRow w.heap.size 31 3 v xs.length (flat xs)) ∧ Below w.heap.size w w' := by
  subst hx
  exact (callsIn_wide (n := 3)).1 ((Lines_in 3 (by omega) s hs w).mono fun e W' ⟨v, he, hr, hb⟩ => ⟨⟨v, he, hr⟩, hb⟩)
/-- A slice of one line. -/
theorem one_line {W : World} {base : Nat} {v : Value} {x : Cur.Ln} (h : W.ownsRow base 31 3 v 1 (flat [x])) :
    ∃ g cap, v = .slice (some ⟨g, 0, none⟩) 1 cap ∧ g < W.heap.size ∧ W.cell? ⟨g, 0, none⟩ = some (.int .i64 x.f) ∧ W.cell? ⟨g, 1, none⟩ = some (.int .i64 x.t) ∧ W.cell? ⟨g, 2, none⟩ = some (.int .i64 x.n) := by
  rcases h.2 with ⟨_, h0⟩ | ⟨g, cap, cur, rfl, hb, hh, _, _, hsz, ht⟩
  · omega
  · refine ⟨g, cap, rfl, (Array.getElem?_eq_some_iff.1 hh).1, ?_, ?_, ?_⟩
    all_goals
      unfold World.cell?
      rw [hh]
      show cur[_]? = _
      rw [← Array.getElem?_toList]
    · have := congrArg (·[0]?) ht
      simpa [List.getElem?_take, flat, cellsL] using this
    · have := congrArg (·[1]?) ht
      simpa [List.getElem?_take, flat, cellsL] using this
    · have := congrArg (·[2]?) ht
      simpa [List.getElem?_take, flat, cellsL] using this

set_option maxRecDepth 100000 in
set_option maxHeartbeats 2000000 in
theorem walk (s : ByteArray) (w : World) (hs : s.size ≤ 140737488351232) :
    Calls Tryd.prog 8 #[.string s] w fun e w' => e = .returned (.bool true) ∧ Below w.heap.size w w' := by
  by_cases h5 : (s.size : Int) > 500
  · go_enter Tryd.func8, Tryd.ntmps8
    go_wp2_with (go_at_call 9; refine (shown_calls _).mono ?_; rintro e w' ⟨rfl, hb⟩)
    go_ret
    exact ⟨rfl, hb⟩
  · have h5' : (s.size : Int) ≤ 500 := by omega
    go_enter Tryd.func8, Tryd.ntmps8
    go_wp2_with (go_at_call 9; refine (shown_calls _).mono ?_; rintro e w1 ⟨rfl, hb1⟩)
    go_loopw [3] (fun p wr => ∃ n : Nat, p = .int .i64 n ∧ n ≤ s.size ∧ wr = w1 ∧ ∀ k, k < n → s.data.toList[k]? ≠ some 10 ∧ s.data.toList[k]? ≠ some 13) (fun p wr => s.size - (intOf p).toNat)
    case atStart => exact ⟨0, rfl, by omega, rfl, fun k hk => by omega⟩
    case round =>
      obtain ⟨n, rfl, hn, rfl, hno⟩ := hrel
      replace hno := Aside0.mk hno
      by_cases hlt : n < s.size
      · have hg := get_data s n hlt
        have hbt : s.get! n = s[n]'hlt := get_at s n hlt
        obtain ⟨bt, hbt2⟩ : ∃ bt, s[n]'hlt = bt := ⟨_, rfl⟩
        rw [hbt, hbt2] at hg
        clear hbt
        replace hg := Aside0.mk hg
        have b1 : ((n : Int) < (s.size : Int)) = True := eq_true (by omega)
        by_cases c1 : bt = 10
        · have c1b : ((bt.toNat : Int) == 10) = true := by rw [c1]; rfl
          go_wp2
          go_ret
          exact ⟨by first | exact rfl | exact trivial, hb1⟩
        · have c1b : ((bt.toNat : Int) == 10) = false := beq_eq_false_iff_ne.2 (fun h => c1 (UInt8.toNat_inj.1 (show bt.toNat = 10 by omega)))
          by_cases c2 : bt = 13
          · have c2b : ((bt.toNat : Int) == 13) = true := by rw [c2]; rfl
            go_wp2
            go_ret
            exact ⟨by first | exact rfl | exact trivial, hb1⟩
          · have c2b : ((bt.toNat : Int) == 13) = false := beq_eq_false_iff_ne.2 (fun h => c2 (UInt8.toNat_inj.1 (show bt.toNat = 13 by omega)))
            go_wp2
            go_roundw
            case rel => exact ⟨n + 1, by go_num, by omega, by first | exact rfl | exact trivial, fun k hk => by
              by_cases e : k = n
              · subst e
                rw [hg.out]
                exact ⟨fun h => c1 (Option.some.inj h), fun h => c2 (Option.some.inj h)⟩
              · exact hno.out k (by omega)⟩
            case measure => simp [intOf]; omega
      · have hnn : n = s.size := by omega
        have b1 : ((n : Int) < (s.size : Int)) = False := eq_false (by omega)
        have h10 : (10 : UInt8) ∉ s.data.toList := not_mem_of fun k => by
          by_cases hk : k < n
          · exact (hno.out k hk).1
          · rw [List.getElem?_eq_none (by rw [size_len]; omega)]; simp
        have h13 : (13 : UInt8) ∉ s.data.toList := not_mem_of fun k => by
          by_cases hk : k < n
          · exact (hno.out k hk).2
          · rw [List.getElem?_eq_none (by rw [size_len]; omega)]; simp
        obtain ⟨la, lb, lc⟩ := Cur.lines_one s.data.toList h10 h13
        have d1 : (s ++ (⟨#[10]⟩ : ByteArray)).data.toList = s.data.toList ++ [10] := by rw [ByteArray.data_append, Array.toList_append]
        have d2 : (s ++ (⟨#[13, 10]⟩ : ByteArray)).data.toList = s.data.toList ++ [13, 10] := by rw [ByteArray.data_append, Array.toList_append]
        have z1 : (s ++ (⟨#[10]⟩ : ByteArray)).size = s.size + 1 := ByteArray.size_append
        have z2 : (s ++ (⟨#[13, 10]⟩ : ByteArray)).size = s.size + 2 := ByteArray.size_append
        have ca := fun W => lines_calls (s ++ (⟨#[10]⟩ : ByteArray)) (by omega) [⟨0, s.size, s.size + 1⟩] (by rw [d1]; exact la) W
        have cb := fun W => lines_calls (s ++ (⟨#[13, 10]⟩ : ByteArray)) (by omega) [⟨0, s.size, s.size + 2⟩] (by rw [d2]; exact lb) W
        have cc := fun W => lines_calls s (by omega) (if s.data.toList = [] then [] else [⟨0, s.size, s.size⟩]) lc W
        replace ca := Aside0.mk ca
        replace cb := Aside0.mk cb
        replace cc := Aside0.mk cc
        clear la lb lc d1 d2 h10 h13
        go_wp2_with fail
        refine (ca.out _).mono ?_
        rintro e w2 ⟨⟨va, rfl, ra⟩, hb2⟩
        obtain ⟨ga, capa, rfl, la, a0, a1, a2⟩ := one_line ra
        go_wp2_with fail
        refine (cb.out _).mono ?_
        rintro e w3 ⟨⟨vb, rfl, rb⟩, hb3⟩
        obtain ⟨gb, capb, rfl, lb, b0, b1', b2⟩ := one_line rb
        replace a0 := (hb3.cell (p := ⟨ga, 0, none⟩) la).trans a0
        replace a1 := (hb3.cell (p := ⟨ga, 1, none⟩) la).trans a1
        replace a2 := (hb3.cell (p := ⟨ga, 2, none⟩) la).trans a2
        have la3 := Nat.lt_of_lt_of_le la hb3.size
        go_wp2_with fail
        refine (cc.out _).mono ?_
        rintro e w4 ⟨⟨vc, rfl, rc⟩, hb4⟩
        replace a0 := (hb4.cell (p := ⟨ga, 0, none⟩) la3).trans a0
        replace a1 := (hb4.cell (p := ⟨ga, 1, none⟩) la3).trans a1
        replace a2 := (hb4.cell (p := ⟨ga, 2, none⟩) la3).trans a2
        replace b0 := (hb4.cell (p := ⟨gb, 0, none⟩) lb).trans b0
        replace b1' := (hb4.cell (p := ⟨gb, 1, none⟩) lb).trans b1'
        replace b2 := (hb4.cell (p := ⟨gb, 2, none⟩) lb).trans b2
        have hsz2 := hb2.size
        have hsz3 := hb3.size
        have lb4 := Nat.lt_of_lt_of_le lb hb4.size
        have la4 := Nat.lt_of_lt_of_le la3 hb4.size
        have hall : Aside0 (Below w.heap.size w w4) := ⟨((hb1.trans (hb2.mono hb1.size)).trans (hb3.mono (Nat.le_trans hb1.size hb2.size))).trans (hb4.mono (Nat.le_trans (Nat.le_trans hb1.size hb2.size) hb3.size))⟩
        obtain ⟨W5, hW5⟩ : ∃ W5, ((w4.alloc (Obj.cells #[Value.int IntKind.i64 0, Value.int IntKind.i64 (s.size : Int), Value.int IntKind.i64 ((s.size : Int) + 1)] 31)).alloc (Obj.cells #[Value.int IntKind.i64 0, Value.int IntKind.i64 (s.size : Int), Value.int IntKind.i64 ((s.size : Int) + 2)] 31)) = W5 := ⟨_, rfl⟩
        have hb5 : Below w4.heap.size w4 W5 := by rw [← hW5]; exact ((Below.refl _ w4).alloc (Nat.le_refl _) _).alloc (by simp) _
        have e1 : W5.heap[w4.heap.size]? = some (Obj.cells #[Value.int IntKind.i64 0, Value.int IntKind.i64 (s.size : Int), Value.int IntKind.i64 ((s.size : Int) + 1)] 31) := by
          rw [← hW5, Below.heap_alloc _ _ _ (by simp)]; exact World.alloc_heap_new w4 _
        have e2 : W5.heap[w4.heap.size + 1]? = some (Obj.cells #[Value.int IntKind.i64 0, Value.int IntKind.i64 (s.size : Int), Value.int IntKind.i64 ((s.size : Int) + 2)] 31) := by
          rw [← hW5]
          have := World.alloc_heap_new (w4.alloc (Obj.cells #[Value.int IntKind.i64 0, Value.int IntKind.i64 (s.size : Int), Value.int IntKind.i64 ((s.size : Int) + 1)] 31)) (Obj.cells #[Value.int IntKind.i64 0, Value.int IntKind.i64 (s.size : Int), Value.int IntKind.i64 ((s.size : Int) + 2)] 31)
          rwa [World.size_alloc] at this
        have q0 : ∀ n, (W5.drewN n).cell? ⟨ga, 0, none⟩ = some (.int .i64 0) := fun n => (hb5.cell (p := ⟨ga, 0, none⟩) la4).trans a0
        have q1 : ∀ n, (W5.drewN n).cell? ⟨ga, 1, none⟩ = some (.int .i64 (s.size : Int)) := fun n => (hb5.cell (p := ⟨ga, 1, none⟩) la4).trans a1
        have q2 : ∀ n, (W5.drewN n).cell? ⟨ga, 2, none⟩ = some (.int .i64 ((s.size : Int) + 1)) := fun n => (hb5.cell (p := ⟨ga, 2, none⟩) la4).trans a2
        have r0 : ∀ n, (W5.drewN n).cell? ⟨gb, 0, none⟩ = some (.int .i64 0) := fun n => (hb5.cell (p := ⟨gb, 0, none⟩) lb4).trans b0
        have r1 : ∀ n, (W5.drewN n).cell? ⟨gb, 1, none⟩ = some (.int .i64 (s.size : Int)) := fun n => (hb5.cell (p := ⟨gb, 1, none⟩) lb4).trans b1'
        have r2 : ∀ n, (W5.drewN n).cell? ⟨gb, 2, none⟩ = some (.int .i64 ((s.size : Int) + 2)) := fun n => (hb5.cell (p := ⟨gb, 2, none⟩) lb4).trans b2
        have t0 : ∀ n, (W5.drewN n).cell? ⟨w4.heap.size, 0, none⟩ = some (.int .i64 0) := fun n => by show W5.cell? _ = _; simp [World.cell?, e1]
        have t1 : ∀ n, (W5.drewN n).cell? ⟨w4.heap.size, 1, none⟩ = some (.int .i64 (s.size : Int)) := fun n => by show W5.cell? _ = _; simp [World.cell?, e1]
        have t2 : ∀ n, (W5.drewN n).cell? ⟨w4.heap.size, 2, none⟩ = some (.int .i64 ((s.size : Int) + 1)) := fun n => by show W5.cell? _ = _; simp [World.cell?, e1]
        have u0 : ∀ n, (W5.drewN n).cell? ⟨w4.heap.size + 1, 0, none⟩ = some (.int .i64 0) := fun n => by show W5.cell? _ = _; simp [World.cell?, e2]
        have u1 : ∀ n, (W5.drewN n).cell? ⟨w4.heap.size + 1, 1, none⟩ = some (.int .i64 (s.size : Int)) := fun n => by show W5.cell? _ = _; simp [World.cell?, e2]
        have u2 : ∀ n, (W5.drewN n).cell? ⟨w4.heap.size + 1, 2, none⟩ = some (.int .i64 ((s.size : Int) + 2)) := fun n => by show W5.cell? _ = _; simp [World.cell?, e2]
        clear e1 e2
        have hall5 : Aside0 (Below w.heap.size w W5) := ⟨hall.out.trans (hb5.mono hall.out.size)⟩
        by_cases he : s.data.toList = []
        · rw [if_pos he] at rc
          obtain ⟨pc, capc, rfl⟩ := own_is rc
          have he2 : s.toList = [] := by rw [ByteArray.toList_eq]; exact he
          go_wp2_with fail
          try rw [hW5]
          clear hW5
          go_quiet (fail)
          go_wp2
          go_ret
          exact ⟨by first | exact rfl | exact trivial, Go.Proofs.YtfdeffjdhpdfeaaDoorW.PrintWords.pw_below_drewN hall5.out _⟩
        · rw [if_neg he] at rc
          obtain ⟨gc, capc, rfl, lc, c0, c1, c2⟩ := one_line rc
          have v0 : ∀ n, (W5.drewN n).cell? ⟨gc, 0, none⟩ = some (.int .i64 0) := fun n => (hb5.cell (p := ⟨gc, 0, none⟩) lc).trans c0
          have v1 : ∀ n, (W5.drewN n).cell? ⟨gc, 1, none⟩ = some (.int .i64 (s.size : Int)) := fun n => (hb5.cell (p := ⟨gc, 1, none⟩) lc).trans c1
          have v2 : ∀ n, (W5.drewN n).cell? ⟨gc, 2, none⟩ = some (.int .i64 (s.size : Int)) := fun n => (hb5.cell (p := ⟨gc, 2, none⟩) lc).trans c2
          have he2 : (s.toList = []) = False := eq_false (by rw [ByteArray.toList_eq]; exact he)
          go_wp2_with fail
          try rw [hW5]
          clear hW5
          go_quiet (fail)
          go_wp2
          go_ret
          exact ⟨by first | exact rfl | exact trivial, Go.Proofs.YtfdeffjdhpdfeaaDoorW.PrintWords.pw_below_drewN hall5.out _⟩
end Go.Proofs.YtfdeffjdhpdfeaaDoor.Ends
