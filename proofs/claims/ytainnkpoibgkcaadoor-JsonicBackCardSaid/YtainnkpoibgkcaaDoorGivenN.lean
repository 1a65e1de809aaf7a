/- jsonic's Parse, walked by hand. Conditions: a text of at most 1000000000 bytes; the variables that the shelf reads lie as listed. -/
import Derived.Test.YtainnkpoibgkcaaDoorGivenM
namespace Go.Proofs.YtainnkpoibgkcaaDoor
set_option linter.unusedVariables false
set_option linter.unusedSimpArgs false
open Go.RowKit Go.Proofs.YtainnkpoibgkcaaDoor.PAll Go.Proofs.YtainnkpoibgkcaaDoorW.PrintWords Go.Proofs.YtainnkpoibgkcaaDoorW.PrintLast

theorem stays_diag {w w1 wr : World} (hw1 : w.alloc (.cells #[.int .i64 0, .int .i64 0] 34) = w1) (hb : Below (w.heap.size + 1) w1 wr) :
    wr.cell? ⟨w.heap.size, 0, none⟩ = some (.int .i64 0) ∧ wr.cell? ⟨w.heap.size, 1, none⟩ = some (.int .i64 0) ∧ ∀ j, wr.frozen? ⟨w.heap.size, j, none⟩ = false := by
  have h := hb.block w.heap.size (Nat.lt_succ_self _)
  have h1 : w1.heap[w.heap.size]? = some (.cells #[.int .i64 0, .int .i64 0] 34 (0, 0)) := by rw [← hw1]; exact Array.getElem?_push_size
  rw [h1] at h
  refine ⟨?_, ?_, fun j => Lib.frozen_of_heap h j⟩ <;> rw [Lib.cell_of_heap h] <;> rfl
theorem own_far {w : World} {b b' e z n : Nat} {v : Value} {xs : List Value} (h : w.ownsRow b e z v n xs) (hb : b' < b) : v.ownBlock ≠ some b' := fun e => by
  have := (h.lt b' e).1
  omega
theorem end_below {w w1 W2 : World} {a c : Int} (hw1 : w.alloc (.cells #[.int .i64 0, .int .i64 0] 34) = w1) (hb : Below (w.heap.size + 1) w1 W2) : Below w.heap.size w (((W2.setCell ⟨w.heap.size, 0, none⟩ (.int .i64 a)).setCell ⟨w.heap.size, 1, none⟩ (.int .i64 c)).drew) := by
  have h1 : Below w.heap.size w w1 := by rw [← hw1]; exact (Below.refl _ _).alloc (Nat.le_refl _) _
  exact (((h1.trans (hb.mono (Nat.le_succ _))).setCell (p := ⟨w.heap.size, 0, none⟩) (Nat.le_refl _) _).setCell (p := ⟨w.heap.size, 1, none⟩) (Nat.le_refl _) _).drew
set_option maxRecDepth 100000 in
set_option maxHeartbeats 8000000 in
theorem parse_walk (s : ByteArray) (w : World) (hs : s.size ≤ 1000000000) (HT : Tab w) : Calls Tryd.prog 15 #[.string s] w fun e w' => match Js.parse s.data.toList with
    | .ok _ its => ∃ v, e = .returned (.tuple #[v, .agg #[.int .i64 0, .int .i64 0]]) ∧ w'.ownsRow w.heap.size 38 4 v its.length (flat its) ∧ Below w.heap.size w w'
    | .bad a c => e = .returned (.tuple #[.slice none 0 0, .agg #[.int .i64 a, .int .i64 c]]) ∧ Below w.heap.size w w' := by
  obtain ⟨F, hF⟩ := Js.run_some s.size (s.data.toList.length + 1) 0 s.data.toList [] [] (Nat.lt_succ_self _)
  have hpar : Js.parse s.data.toList = Js.fin s.size F := by
    unfold Js.parse
    rw [show s.data.toList.length = s.size from rfl] at hF ⊢
    rw [hF]
  rw [hpar]
  clear hpar
  replace hF := Aside0.mk hF
  obtain ⟨w1, hw1⟩ : ∃ w1, w.alloc (.cells #[.int .i64 0, .int .i64 0] 34) = w1 := ⟨_, rfl⟩
  have hz1 : w1.heap.size = w.heap.size + 1 := by rw [← hw1]; simp
  have hT1 : Tab w1 := by rw [← hw1]; exact HT.below ((Below.refl _ _).alloc (Nat.le_refl _) _)
  have HT1 := Aside0.mk hT1
  clear hT1
  go_enter Tryd.func15, Tryd.ntmps15
  go_wp2
  go_step3
  go_wp2
  go_step3
  go_wp2
  go_loopw [5, 6] (fun t5 t6 wr => PRel w1 (w.heap.size + 1) (w.heap.size + 1) s F t5 t6 wr) (fun _ t6 wr => mP s (w.heap.size + 1) t6 wr)
  case atStart =>
    have hf := fresh_ms w1 s (w.heap.size + 1) (by omega)
    rw [hz1] at hf
    refine ⟨0, rfl, (Below.refl _ _).alloc (by omega) _, .inl ⟨rfl, s.data.toList, [], [], s.data.toList.length + 1, ⟨0, Nat.zero_le _, rfl, Nat.zero_le _, Nat.zero_le _, fun e he => by simp at he, hf⟩, hF.out⟩⟩
  case round =>
    obtain ⟨wt, rfl, hb, ⟨rfl, l, st, its, k, hL, hrun⟩ | ⟨rfl, q, st, its, a, c, hM, hFb⟩⟩ := hrel
    · have hTr : Tab wr := HT1.out.below (hz1 ▸ hb)
      have hTg : ∀ w', Below (w.heap.size + 1) wr w' → Tab w' := fun w' h => HT1.out.below (hz1 ▸ hb.trans h)
      cases k with
      | zero => simp [Js.run] at hrun
      | succ k =>
      by_cases hw0 : wt = 0
      · subst hw0
        rw [Js.run_value] at hrun
        have hv := Aside0.mk (value_r hL hTr hs hTg)
        have HQ : ∀ e w', RPost wr (w.heap.size + 1) (w.heap.size + 1) s (Js.value s.size l st its) e w' → _ := fun e w' h => rpost_prel (L := l.length) h hb hrun (fun _ _ _ _ h => Js.value_short h)
        have HP : Aside0 (mP s (w.heap.size + 1) (.bool true) wr = 1 + l.length) := ⟨by have := hL.pos; simp only [mP]; rw [this.1]; omega⟩
        replace HQ := Aside0.mk HQ
        clear hTr hTg hrun hb hL
        go_wp2_with fail
        refine hv.out.mono ?_
        intro e W2 hR
        obtain ⟨x, b, rfl, h1, h2⟩ := HQ.out e W2 hR
        have H2 := Aside0.mk (And.intro h1 h2)
        clear h1 h2 hR hv
        go_wp2_with fail
        exact ⟨H2.out.1, by rw [HP.out]; exact H2.out.2⟩
      by_cases hw1' : wt = 1
      · subst hw1'
        rw [Js.run_key] at hrun
        have hv := Aside0.mk (key_r hL hs)
        have HQ : ∀ e w', RPost wr (w.heap.size + 1) (w.heap.size + 1) s (Js.key s.size l st its) e w' → _ := fun e w' h => rpost_prel (L := l.length) h hb hrun (fun _ _ _ _ h => Js.key_short h)
        have HP : Aside0 (mP s (w.heap.size + 1) (.bool true) wr = 1 + l.length) := ⟨by have := hL.pos; simp only [mP]; rw [this.1]; omega⟩
        replace HQ := Aside0.mk HQ
        clear hTr hTg hrun hb hL
        go_wp2_with fail
        refine hv.out.mono ?_
        intro e W2 hR
        obtain ⟨x, b, rfl, h1, h2⟩ := HQ.out e W2 hR
        have H2 := Aside0.mk (And.intro h1 h2)
        clear h1 h2 hR hv
        go_wp2_with fail
        exact ⟨H2.out.1, by rw [HP.out]; exact H2.out.2⟩
      rw [Js.run_more _ _ hw0 hw1'] at hrun
      have d0 : (wt == 0) = false := by simpa using hw0
      have d1 : (wt == 1) = false := by simpa using hw1'
      cases st with
      | cons en st =>
        rw [if_neg (by simp)] at hrun
        have c18 : wr.cell? ⟨w.heap.size + 1, 18, none⟩ = some (.int .i64 ((st.length : Int) + 1)) := by
          obtain ⟨q, _, _, _, _, _, hM⟩ := hL
          have := hM.cell18; simpa using this
        have dz : ((st.length : Int) + 1 == 0) = false := by simp; omega
        have hv := Aside0.mk (more_r hL hs)
        have HQ : ∀ e w', RPost wr (w.heap.size + 1) (w.heap.size + 1) s (Js.more s.size l (en :: st) its) e w' → _ := fun e w' h => rpost_prel (L := l.length) h hb hrun (fun _ _ _ _ h => Js.more_short h)
        have HP : Aside0 (mP s (w.heap.size + 1) (.bool true) wr = 1 + l.length) := ⟨by have := hL.pos; simp only [mP]; rw [this.1]; omega⟩
        replace HQ := Aside0.mk HQ
        clear hTr hTg hrun hb hL
        go_wp2_with fail
        refine hv.out.mono ?_
        intro e W2 hR
        obtain ⟨x, b, rfl, h1, h2⟩ := HQ.out e W2 hR
        have H2 := Aside0.mk (And.intro h1 h2)
        clear h1 h2 hR hv
        go_wp2_with fail
        exact ⟨H2.out.1, by rw [HP.out]; exact H2.out.2⟩
      | nil =>
        rw [if_pos rfl] at hrun
        have HFo : Aside0 (F = .ok l its) := ⟨by simpa using hrun.symm⟩
        obtain ⟨q, hq, hl, _, _, _, hM⟩ := hL
        have c18 : wr.cell? ⟨w.heap.size + 1, 18, none⟩ = some (.int .i64 0) := hM.cell18
        obtain ⟨q', hqq, hq', hsk, hpk⟩ := peek_l hM hq hs
        rw [hl] at hsk
        replace hpk := Aside0.mk hpk
        have HH := Aside0.mk (And.intro hb (And.intro hsk hq'))
        clear hTr hTg hrun hM hsk hb
        cases hcr : s.data.toList.drop q' with
        | nil =>
          have hqe : q' = s.size := by
            have h1 := congrArg List.length hcr
            rw [List.length_drop, size_len] at h1
            simp at h1; omega
          have hps := hpk.out
          rw [hcr] at hps
          replace hps := Aside0.mk (show Calls Tryd.prog 27 #[.pointer (some ⟨w.heap.size + 1, 0, none⟩)] wr fun e w' => e = .returned (.int .u8 0) ∧ MS w' (w.heap.size + 1) (w.heap.size + 1) s q' [] its 0 0 ∧ Below (w.heap.size + 1) wr w' from hps)
          have HC := Aside0.mk hcr
          clear hpk hcr
          go_wp2_with fail
          refine hps.out.mono ?_
          rintro e W2 ⟨rfl, hM, h2⟩
          have hb := HH.out.1.trans h2
          have c1 := hM.cell1
          replace hM := Aside0.mk hM
          replace hb := Aside0.mk hb
          clear hps h2 c18
          have hlt : ((q' : Int) < (s.size : Int)) = False := eq_false (by omega)
          go_wp2_with fail
          replace hM := hM.out
          replace hb := hb.out
          obtain ⟨z0, z1, zf⟩ := stays_diag hw1 hb
          obtain ⟨o, v, hI, hO, _, _⟩ := hM
          obtain ⟨_, _, _, c19, c20, c21, _⟩ := hI.cells
          have f0 := zf 0
          have f1 := zf 1
          have HI := Aside0.mk hI
          have HO := Aside0.mk hO
          have HB := Aside0.mk hb
          clear hI hO hb zf
          go_wp2_with fail
          refine start_ (n := 10) (S := fun w' => w'.cell? ⟨w.heap.size + 1, 19, none⟩ = some v ∧ w'.cell? ⟨w.heap.size + 1, 20, none⟩ = some (.int .i64 0) ∧ w'.cell? ⟨w.heap.size + 1, 21, none⟩ = some (.int .i64 0)) (ds := [9]) #[false, false, false, false, false, false, false, false, false, false] (by kernel_rfl) rfl rfl ⟨c19, c20, c21⟩ (fun hHeld => ?_)
          refine pure_ (i := 0) (N := some 65) (v := ?_) (a' := ?_) #[true, false, false, false, false, false, false, false, false, false] rfl rfl (by kernel_rfl) (fun _ _ _ h => h) (Or.inl ⟨by rfl, ?_⟩) ?_ ?_
          rotate_left
          · intro w'
            go_simp
            with_reducible rfl
          rotate_left
          · simp only [Act.put, List.setIfInBounds_toArray, List.set_cons_zero, List.set_cons_succ, i64_w, i32_w]
            rfl
          refine pure_ (i := 1) (N := some 66) (v := ?_) (a' := ?_) #[true, true, false, false, false, false, false, false, false, false] rfl rfl (by kernel_rfl) (fun _ _ _ h => h) (Or.inl ⟨by rfl, ?_⟩) ?_ ?_
          rotate_left
          · intro w'
            go_simp
            with_reducible rfl
          rotate_left
          · simp only [Act.put, List.setIfInBounds_toArray, List.set_cons_zero, List.set_cons_succ, i64_w, i32_w]
            rfl
          refine pure_ (i := 2) (N := some 67) (v := ?_) (a' := ?_) #[true, true, true, false, false, false, false, false, false, false] rfl rfl (by kernel_rfl) (fun _ _ _ h => h) (Or.inl ⟨by rfl, ?_⟩) ?_ ?_
          rotate_left
          · intro w'
            go_simp
            with_reducible rfl
          rotate_left
          · simp only [Act.put, List.setIfInBounds_toArray, List.set_cons_zero, List.set_cons_succ, i64_w, i32_w]
            rfl
          refine pure_ (i := 4) (N := some 69) (v := ?_) (a' := ?_) #[true, true, true, false, true, false, false, false, false, false] rfl rfl (by kernel_rfl) (fun _ _ _ h => h) (Or.inl ⟨by rfl, ?_⟩) ?_ ?_
          rotate_left
          · intro w'
            go_simp
            with_reducible rfl
          rotate_left
          · simp only [Act.put, List.setIfInBounds_toArray, List.set_cons_zero, List.set_cons_succ, i64_w, i32_w]
            rfl
          refine pure_ (i := 5) (N := some 70) (v := ?_) (a' := ?_) #[true, true, true, false, true, true, false, false, false, false] rfl rfl (by kernel_rfl) (fun _ _ _ h => h) (Or.inl ⟨by rfl, ?_⟩) ?_ ?_
          rotate_left
          · intro w'
            go_simp
            with_reducible rfl
          rotate_left
          · simp only [Act.put, List.setIfInBounds_toArray, List.set_cons_zero, List.set_cons_succ, i64_w, i32_w]
            rfl
          refine pure_ (i := 6) (N := some 71) (v := ?_) (a' := ?_) #[true, true, true, false, true, true, true, false, false, false] rfl rfl (by kernel_rfl) (fun _ _ _ h => h) (Or.inl ⟨by rfl, ?_⟩) ?_ ?_
          rotate_left
          · intro w'
            go_simp
            with_reducible rfl
          rotate_left
          · simp only [Act.put, List.setIfInBounds_toArray, List.set_cons_zero, List.set_cons_succ, i64_w, i32_w]
            rfl
          refine take_ (i := 3) (N := some 68) (v := ?_) (a' := ?_) #[true, true, true, true, true, true, true, false, false, false] rfl rfl (by kernel_rfl) (fun _ _ _ h => h) (Or.inl ⟨by rfl, ?_⟩) hHeld ?_ ?_
          rotate_left
          · rintro w' ⟨s0, s1, s2⟩
            go_simp
            with_reducible rfl
          rotate_left
          · simp only [Act.put, List.setIfInBounds_toArray, List.set_cons_zero, List.set_cons_succ, i64_w, i32_w]
            rfl
          refine pure_ (i := 8) (N := some 2) (v := ?_) (a' := ?_) #[true, true, true, true, true, true, true, false, true, false] rfl rfl (by kernel_rfl) (fun _ _ _ h => h) (Or.inl ⟨by rfl, ?_⟩) ?_ ?_
          rotate_left
          · intro w'
            go_simp
            with_reducible rfl
          rotate_left
          · simp only [Act.put, List.setIfInBounds_toArray, List.set_cons_zero, List.set_cons_succ, i64_w, i32_w]
            rfl
          refine take_ (i := 7) (N := some 72) (v := ?_) (a' := ?_) #[true, true, true, true, true, true, true, true, true, false] rfl rfl (by kernel_rfl) (fun _ _ _ h => h) (Or.inl ⟨by rfl, ?_⟩) hHeld ?_ ?_
          rotate_left
          · rintro w' ⟨s0, s1, s2⟩
            go_simp
            with_reducible rfl
          rotate_left
          · simp only [Act.put, List.setIfInBounds_toArray, List.set_cons_zero, List.set_cons_succ, i64_w, i32_w]
            rfl
          refine last_ (i := 9) (N := none) #[true, true, true, true, true, true, true, true, true, true] rfl rfl (by kernel_rfl) (by decide) (fun K hK => ?_)
          refine skip_ (w1 := ?_) (by rfl) rfl ?_ ?_
          rotate_left
          · go_simp
            rfl
          refine hK.out _ _ ?_
          clear hK K
          refine done_ (by kernel_rfl) ?_

          go_wp2_with fail
          rw [Exit.noGoto_ret]
          refine bodyPost_ret (v := .tuple #[v, .agg #[.int .i64 0, .int .i64 0]]) ?_ rfl ?_
          · have g0 := World.cell?_setCell_same _ _ (.int .i64 0) z0
            have g1 : (W2.setCell ⟨w.heap.size, 0, none⟩ (.int .i64 0)).cell? ⟨w.heap.size, 1, none⟩ = some (.int .i64 0) := by rw [World.cell?_setCell_other _ _ _ _ (by simp)]; exact z1
            have g2 := World.cell?_setCell_same _ _ (.int .i64 0) g1
            have g3 : ((W2.setCell ⟨w.heap.size, 0, none⟩ (.int .i64 0)).setCell ⟨w.heap.size, 1, none⟩ (.int .i64 0)).cell? ⟨w.heap.size, 0, none⟩ = some (.int .i64 0) := by rw [World.cell?_setCell_other _ _ _ _ (by simp)]; exact g0
            simp [results, go_sem, g0, g2, g3]
          · rw [HFo.out]
            simp only [Js.fin]
            rw [if_pos (by rw [← HH.out.2.1]; exact HC.out)]
            exact ⟨v, rfl, ownsRow_le ((ownsRow_setCell_other (ownsRow_setCell_other HO.out (own_far HO.out (Nat.lt_succ_self _)) _) (own_far HO.out (Nat.lt_succ_self _)) _).drew) (Nat.le_succ _), end_below hw1 HB.out⟩
        | cons cc rr =>
          have HC := Aside0.mk hcr
          have hqs := (drop_cons hcr).1
          have hps := hpk.out
          rw [hcr] at hps
          obtain ⟨hd, hhd⟩ : ∃ z, Js.hd (cc :: rr) = z := ⟨_, rfl⟩
          rw [hhd] at hps
          replace hps := Aside0.mk hps
          clear hpk hcr hhd
          have hlt : ((q' : Int) < (s.size : Int)) = True := eq_true (by omega)
          go_wp2_with fail
          refine hps.out.mono ?_
          rintro e W2 ⟨rfl, hM, h2⟩
          have hb := HH.out.1.trans h2
          have c1 := hM.cell1
          have hfl := Aside0.mk (fail_ms hM q' 190)
          have hf2 : Aside0 (∀ (e : Ending) (w' : World), (e = .returned (.bool false) ∧ MS w' (w.heap.size + 1) (w.heap.size + 1) s q' [] its q' 190 ∧ Below (w.heap.size + 1) W2 w') → Below (w.heap.size + 1) w1 w') := ⟨fun e w' h => hb.trans h.2.2⟩
          clear hps h2 c18 hM hb
          by_cases hz : hd = 0
          · have hne : (hd != 0) = false := by simpa using hz
            go_wp2_with fail
            refine hfl.out.mono ?_
            rintro e W3 hh
            have HB := Aside0.mk (hf2.out e W3 hh)
            obtain ⟨rfl, hM, _⟩ := hh
            have hb := HB.out
            have HFb : Aside0 (Js.fin s.size F = .bad q' 190) := ⟨by
              rw [HFo.out]; simp only [Js.fin]
              rw [if_neg (by rw [← HH.out.2.1, HC.out]; simp), ← HH.out.2.1, pl_drop s q' hq']⟩
            clear HB hfl hf2
            obtain ⟨z0, z1, zf⟩ := stays_diag hw1 hb
            obtain ⟨o, v, hI, hO, _, _⟩ := hM
            obtain ⟨_, _, _, c19, c20, c21, _⟩ := hI.cells
            have f0 := zf 0
            have f1 := zf 1
            have HI := Aside0.mk hI
            have HO := Aside0.mk hO
            have HB := Aside0.mk hb
            clear hI hO hb zf
            go_wp2_with fail
            refine start_ (n := 6) (S := fun w' => w'.cell? ⟨w.heap.size + 1, 20, none⟩ = some (.int .i64 q') ∧ w'.cell? ⟨w.heap.size + 1, 21, none⟩ = some (.int .i64 190)) (ds := [5]) #[false, false, false, false, false, false] (by kernel_rfl) rfl rfl ⟨c20, c21⟩ (fun hHeld => ?_)
            refine pure_ (i := 0) (N := some 61) (v := ?_) (a' := ?_) #[true, false, false, false, false, false] rfl rfl (by kernel_rfl) (fun _ _ _ h => h) (Or.inl ⟨by rfl, ?_⟩) ?_ ?_
            rotate_left
            · intro w'
              go_simp
              with_reducible rfl
            rotate_left
            · simp only [Act.put, List.setIfInBounds_toArray, List.set_cons_zero, List.set_cons_succ, i64_w, i32_w]
              rfl
            refine pure_ (i := 1) (N := some 62) (v := ?_) (a' := ?_) #[true, true, false, false, false, false] rfl rfl (by kernel_rfl) (fun _ _ _ h => h) (Or.inl ⟨by rfl, ?_⟩) ?_ ?_
            rotate_left
            · intro w'
              go_simp
              with_reducible rfl
            rotate_left
            · simp only [Act.put, List.setIfInBounds_toArray, List.set_cons_zero, List.set_cons_succ, i64_w, i32_w]
              rfl
            refine pure_ (i := 2) (N := some 63) (v := ?_) (a' := ?_) #[true, true, true, false, false, false] rfl rfl (by kernel_rfl) (fun _ _ _ h => h) (Or.inl ⟨by rfl, ?_⟩) ?_ ?_
            rotate_left
            · intro w'
              go_simp
              with_reducible rfl
            rotate_left
            · simp only [Act.put, List.setIfInBounds_toArray, List.set_cons_zero, List.set_cons_succ, i64_w, i32_w]
              rfl
            refine pure_ (i := 4) (N := some 2) (v := ?_) (a' := ?_) #[true, true, true, false, true, false] rfl rfl (by kernel_rfl) (fun _ _ _ h => h) (Or.inl ⟨by rfl, ?_⟩) ?_ ?_
            rotate_left
            · intro w'
              go_simp
              with_reducible rfl
            rotate_left
            · simp only [Act.put, List.setIfInBounds_toArray, List.set_cons_zero, List.set_cons_succ, i64_w, i32_w]
              rfl
            refine take_ (i := 3) (N := some 64) (v := ?_) (a' := ?_) #[true, true, true, true, true, false] rfl rfl (by kernel_rfl) (fun _ _ _ h => h) (Or.inl ⟨by rfl, ?_⟩) hHeld ?_ ?_
            rotate_left
            · rintro w' ⟨s0, s1⟩
              go_simp
              with_reducible rfl
            rotate_left
            · simp only [Act.put, List.setIfInBounds_toArray, List.set_cons_zero, List.set_cons_succ, i64_w, i32_w]
              rfl
            refine last_ (i := 5) (N := none) #[true, true, true, true, true, true] rfl rfl (by kernel_rfl) (by decide) (fun K hK => ?_)
            refine skip_ (w1 := ?_) (by rfl) rfl ?_ ?_
            rotate_left
            · go_simp
              rfl
            refine hK.out _ _ ?_
            clear hK K
            refine done_ (by kernel_rfl) ?_

            go_wp2_with fail
            rw [Exit.noGoto_ret]
            refine bodyPost_ret (v := .tuple #[.slice none 0 0, .agg #[.int .i64 q', .int .i64 190]]) ?_ rfl ?_
            · have g0 := World.cell?_setCell_same _ _ (.int .i64 q') z0
              have g1 : (W3.setCell ⟨w.heap.size, 0, none⟩ (.int .i64 q')).cell? ⟨w.heap.size, 1, none⟩ = some (.int .i64 0) := by rw [World.cell?_setCell_other _ _ _ _ (by simp)]; exact z1
              have g2 := World.cell?_setCell_same _ _ (.int .i64 190) g1
              have g3 : ((W3.setCell ⟨w.heap.size, 0, none⟩ (.int .i64 q')).setCell ⟨w.heap.size, 1, none⟩ (.int .i64 190)).cell? ⟨w.heap.size, 0, none⟩ = some (.int .i64 q') := by rw [World.cell?_setCell_other _ _ _ _ (by simp)]; exact g0
              simp [results, go_sem, g0, g2, g3]
            · rw [HFb.out]
  
              exact ⟨rfl, end_below hw1 HB.out⟩
          · have hne : (hd != 0) = true := by simpa using hz
            go_wp2_with fail
            refine hfl.out.mono ?_
            rintro e W3 hh
            have HB := Aside0.mk (hf2.out e W3 hh)
            obtain ⟨rfl, hM, _⟩ := hh
            have hb := HB.out
            have HFb : Aside0 (Js.fin s.size F = .bad q' 190) := ⟨by
              rw [HFo.out]; simp only [Js.fin]
              rw [if_neg (by rw [← HH.out.2.1, HC.out]; simp), ← HH.out.2.1, pl_drop s q' hq']⟩
            clear HB hfl hf2
            obtain ⟨z0, z1, zf⟩ := stays_diag hw1 hb
            obtain ⟨o, v, hI, hO, _, _⟩ := hM
            obtain ⟨_, _, _, c19, c20, c21, _⟩ := hI.cells
            have f0 := zf 0
            have f1 := zf 1
            have HI := Aside0.mk hI
            have HO := Aside0.mk hO
            have HB := Aside0.mk hb
            clear hI hO hb zf
            go_wp2_with fail
            refine start_ (n := 6) (S := fun w' => w'.cell? ⟨w.heap.size + 1, 20, none⟩ = some (.int .i64 q') ∧ w'.cell? ⟨w.heap.size + 1, 21, none⟩ = some (.int .i64 190)) (ds := [5]) #[false, false, false, false, false, false] (by kernel_rfl) rfl rfl ⟨c20, c21⟩ (fun hHeld => ?_)
            refine pure_ (i := 0) (N := some 61) (v := ?_) (a' := ?_) #[true, false, false, false, false, false] rfl rfl (by kernel_rfl) (fun _ _ _ h => h) (Or.inl ⟨by rfl, ?_⟩) ?_ ?_
            rotate_left
            · intro w'
              go_simp
              with_reducible rfl
            rotate_left
            · simp only [Act.put, List.setIfInBounds_toArray, List.set_cons_zero, List.set_cons_succ, i64_w, i32_w]
              rfl
            refine pure_ (i := 1) (N := some 62) (v := ?_) (a' := ?_) #[true, true, false, false, false, false] rfl rfl (by kernel_rfl) (fun _ _ _ h => h) (Or.inl ⟨by rfl, ?_⟩) ?_ ?_
            rotate_left
            · intro w'
              go_simp
              with_reducible rfl
            rotate_left
            · simp only [Act.put, List.setIfInBounds_toArray, List.set_cons_zero, List.set_cons_succ, i64_w, i32_w]
              rfl
            refine pure_ (i := 2) (N := some 63) (v := ?_) (a' := ?_) #[true, true, true, false, false, false] rfl rfl (by kernel_rfl) (fun _ _ _ h => h) (Or.inl ⟨by rfl, ?_⟩) ?_ ?_
            rotate_left
            · intro w'
              go_simp
              with_reducible rfl
            rotate_left
            · simp only [Act.put, List.setIfInBounds_toArray, List.set_cons_zero, List.set_cons_succ, i64_w, i32_w]
              rfl
            refine pure_ (i := 4) (N := some 2) (v := ?_) (a' := ?_) #[true, true, true, false, true, false] rfl rfl (by kernel_rfl) (fun _ _ _ h => h) (Or.inl ⟨by rfl, ?_⟩) ?_ ?_
            rotate_left
            · intro w'
              go_simp
              with_reducible rfl
            rotate_left
            · simp only [Act.put, List.setIfInBounds_toArray, List.set_cons_zero, List.set_cons_succ, i64_w, i32_w]
              rfl
            refine take_ (i := 3) (N := some 64) (v := ?_) (a' := ?_) #[true, true, true, true, true, false] rfl rfl (by kernel_rfl) (fun _ _ _ h => h) (Or.inl ⟨by rfl, ?_⟩) hHeld ?_ ?_
            rotate_left
            · rintro w' ⟨s0, s1⟩
              go_simp
              with_reducible rfl
            rotate_left
            · simp only [Act.put, List.setIfInBounds_toArray, List.set_cons_zero, List.set_cons_succ, i64_w, i32_w]
              rfl
            refine last_ (i := 5) (N := none) #[true, true, true, true, true, true] rfl rfl (by kernel_rfl) (by decide) (fun K hK => ?_)
            refine skip_ (w1 := ?_) (by rfl) rfl ?_ ?_
            rotate_left
            · go_simp
              rfl
            refine hK.out _ _ ?_
            clear hK K
            refine done_ (by kernel_rfl) ?_

            go_wp2_with fail
            rw [Exit.noGoto_ret]
            refine bodyPost_ret (v := .tuple #[.slice none 0 0, .agg #[.int .i64 q', .int .i64 190]]) ?_ rfl ?_
            · have g0 := World.cell?_setCell_same _ _ (.int .i64 q') z0
              have g1 : (W3.setCell ⟨w.heap.size, 0, none⟩ (.int .i64 q')).cell? ⟨w.heap.size, 1, none⟩ = some (.int .i64 0) := by rw [World.cell?_setCell_other _ _ _ _ (by simp)]; exact z1
              have g2 := World.cell?_setCell_same _ _ (.int .i64 190) g1
              have g3 : ((W3.setCell ⟨w.heap.size, 0, none⟩ (.int .i64 q')).setCell ⟨w.heap.size, 1, none⟩ (.int .i64 190)).cell? ⟨w.heap.size, 0, none⟩ = some (.int .i64 q') := by rw [World.cell?_setCell_other _ _ _ _ (by simp)]; exact g0
              simp [results, go_sem, g0, g2, g3]
            · rw [HFb.out]
  
              exact ⟨rfl, end_below hw1 HB.out⟩
    · have HFb : Aside0 (Js.fin s.size F = .bad a c) := ⟨by rw [hFb]; rfl⟩
      replace hM := Aside0.mk hM
      replace hb := Aside0.mk hb
      clear hFb
      go_wp2_with fail
      replace hM := hM.out
      replace hb := hb.out
      obtain ⟨z0, z1, zf⟩ := stays_diag hw1 hb
      obtain ⟨o, v, hI, hO, _, _⟩ := hM
      obtain ⟨_, _, _, c19, c20, c21, _⟩ := hI.cells
      have f0 := zf 0
      have f1 := zf 1
      have HI := Aside0.mk hI
      have HO := Aside0.mk hO
      have HB := Aside0.mk hb
      clear hI hO hb zf
      go_wp2_with fail
      refine start_ (n := 6) (S := fun w' => w'.cell? ⟨w.heap.size + 1, 20, none⟩ = some (.int .i64 a) ∧ w'.cell? ⟨w.heap.size + 1, 21, none⟩ = some (.int .i64 c)) (ds := [5]) #[false, false, false, false, false, false] (by kernel_rfl) rfl rfl ⟨c20, c21⟩ (fun hHeld => ?_)
      refine pure_ (i := 0) (N := some 61) (v := ?_) (a' := ?_) #[true, false, false, false, false, false] rfl rfl (by kernel_rfl) (fun _ _ _ h => h) (Or.inl ⟨by rfl, ?_⟩) ?_ ?_
      rotate_left
      · intro w'
        go_simp
        with_reducible rfl
      rotate_left
      · simp only [Act.put, List.setIfInBounds_toArray, List.set_cons_zero, List.set_cons_succ, i64_w, i32_w]
        rfl
      refine pure_ (i := 1) (N := some 62) (v := ?_) (a' := ?_) #[true, true, false, false, false, false] rfl rfl (by kernel_rfl) (fun _ _ _ h => h) (Or.inl ⟨by rfl, ?_⟩) ?_ ?_
      rotate_left
      · intro w'
        go_simp
        with_reducible rfl
      rotate_left
      · simp only [Act.put, List.setIfInBounds_toArray, List.set_cons_zero, List.set_cons_succ, i64_w, i32_w]
        rfl
      refine pure_ (i := 2) (N := some 63) (v := ?_) (a' := ?_) #[true, true, true, false, false, false] rfl rfl (by kernel_rfl) (fun _ _ _ h => h) (Or.inl ⟨by rfl, ?_⟩) ?_ ?_
      rotate_left
      · intro w'
        go_simp
        with_reducible rfl
      rotate_left
      · simp only [Act.put, List.setIfInBounds_toArray, List.set_cons_zero, List.set_cons_succ, i64_w, i32_w]
        rfl
      refine pure_ (i := 4) (N := some 2) (v := ?_) (a' := ?_) #[true, true, true, false, true, false] rfl rfl (by kernel_rfl) (fun _ _ _ h => h) (Or.inl ⟨by rfl, ?_⟩) ?_ ?_
      rotate_left
      · intro w'
        go_simp
        with_reducible rfl
      rotate_left
      · simp only [Act.put, List.setIfInBounds_toArray, List.set_cons_zero, List.set_cons_succ, i64_w, i32_w]
        rfl
      refine take_ (i := 3) (N := some 64) (v := ?_) (a' := ?_) #[true, true, true, true, true, false] rfl rfl (by kernel_rfl) (fun _ _ _ h => h) (Or.inl ⟨by rfl, ?_⟩) hHeld ?_ ?_
      rotate_left
      · rintro w' ⟨s0, s1⟩
        go_simp
        with_reducible rfl
      rotate_left
      · simp only [Act.put, List.setIfInBounds_toArray, List.set_cons_zero, List.set_cons_succ, i64_w, i32_w]
        rfl
      refine last_ (i := 5) (N := none) #[true, true, true, true, true, true] rfl rfl (by kernel_rfl) (by decide) (fun K hK => ?_)
      refine skip_ (w1 := ?_) (by rfl) rfl ?_ ?_
      rotate_left
      · go_simp
        rfl
      refine hK.out _ _ ?_
      clear hK K
      refine done_ (by kernel_rfl) ?_

      go_wp2_with fail
      rw [Exit.noGoto_ret]
      refine bodyPost_ret (v := .tuple #[.slice none 0 0, .agg #[.int .i64 a, .int .i64 c]]) ?_ rfl ?_
      · have g0 := World.cell?_setCell_same _ _ (.int .i64 a) z0
        have g1 : (wr.setCell ⟨w.heap.size, 0, none⟩ (.int .i64 a)).cell? ⟨w.heap.size, 1, none⟩ = some (.int .i64 0) := by rw [World.cell?_setCell_other _ _ _ _ (by simp)]; exact z1
        have g2 := World.cell?_setCell_same _ _ (.int .i64 c) g1
        have g3 : ((wr.setCell ⟨w.heap.size, 0, none⟩ (.int .i64 a)).setCell ⟨w.heap.size, 1, none⟩ (.int .i64 c)).cell? ⟨w.heap.size, 0, none⟩ = some (.int .i64 a) := by rw [World.cell?_setCell_other _ _ _ _ (by simp)]; exact g0
        simp [results, go_sem, g0, g2, g3]
      · rw [HFb.out]
  
        exact ⟨rfl, end_below hw1 HB.out⟩
end Go.Proofs.YtainnkpoibgkcaaDoor
