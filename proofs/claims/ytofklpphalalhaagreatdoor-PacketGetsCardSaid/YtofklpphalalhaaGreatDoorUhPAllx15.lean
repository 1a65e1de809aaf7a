/- A text of this claim, cut to what the claim uses. Conditions: each theorem's own. -/
import Derived.Test.YtofklpphalalhaaGreatDoorUhJ1
import Derived.Test.YtofklpphalalhaaGreatDoorUhJ4
-- Written by a program out of the translation, for several roots at once (set All). Not trusted: Lean checks it.
namespace Go.Proofs.YtofklpphalalhaaGreatDoor.PAll
open Go.RowKit Go.Proofs.YtofklpphalalhaaGreatDoorW.PrintWords Go.Proofs.YtofklpphalalhaaGreatDoorW.PrintLast Go.Proofs.YtofklpphalalhaaGreatDoorW.PrintMore
attribute [local go_sem] min2_int min_two
set_option linter.unusedVariables false
set_option linter.unusedSimpArgs false
/-! ### entrepotref08_Norm: function 141 -/
mutual
def entrepotref08_Norm.l0 : Nat → List (S128) → ByteArray → Int → Int → Int → Int → Int → List (S128) → List Int → Option (ByteArray × Int × Int × Int × Int × Int × (List (S128)) × List Int)
 | 0, _, _, _, _, _, _, _, _, _ => none
 | k + 1, x3, x286000, x286001, x286002, x286003, x286004, x286005, x286006, x286007 => if x286003 ≥ 1 then (entrepotref08_Norm.j1 k x3 (decide (x286003 ≤ 6)) x286000 x286001 x286002 x286003 x286004 x286005 x286006 x286007) else (entrepotref08_Norm.j1 k x3 false x286000 x286001 x286002 x286003 x286004 x286005 x286006 x286007)
def entrepotref08_Norm.j1 : Nat → List (S128) → Bool → ByteArray → Int → Int → Int → Int → Int → List (S128) → List Int → Option (ByteArray × Int × Int × Int × Int × Int × (List (S128)) × List Int)
 | 0, _, _, _, _, _, _, _, _, _, _ => none
 | k + 1, x3, x18, x286000, x286001, x286002, x286003, x286004, x286005, x286006, x286007 => if x18 = true then (entrepotref08_Norm.l1 k x3 true 0 x286000 x286001 x286002 x286003 x286004 x286005 x286006 x286007) else ((some (([] : List Int) : List Int)).bind fun y293 => (if y293.length + x286007.length < 17592186044416 then (some (x286000, x286001, x286002, x286003, x286004, x286005, x3, (y293 ++ x286007))) else (none)))
def entrepotref08_Norm.l1 : Nat → List (S128) → Bool → Int → ByteArray → Int → Int → Int → Int → Int → List (S128) → List Int → Option (ByteArray × Int × Int × Int × Int × Int × (List (S128)) × List Int)
 | 0, _, _, _, _, _, _, _, _, _, _, _ => none
 | k + 1, x3, x4, x5, x286000, x286001, x286002, x286003, x286004, x286005, x286006, x286007 => if x5 < (x3.length : Int) then (if x4 = true then (if 0 ≤ x5 then (if (Int.tmod ((rd_T128 x3 x5).f0) 10) = 0 then (entrepotref08_Norm.l1 k x3 ((Int.tmod ((rd_T128 x3 x5).f1) 10) == 0) (wrap64 (x5 + 1)) x286000 x286001 x286002 x286003 x286004 x286005 x286006 x286007) else (entrepotref08_Norm.l1 k x3 false (wrap64 (x5 + 1)) x286000 x286001 x286002 x286003 x286004 x286005 x286006 x286007)) else (none)) else (entrepotref08_Norm.l1 k x3 false (wrap64 (x5 + 1)) x286000 x286001 x286002 x286003 x286004 x286005 x286006 x286007)) else (if x4 = true then (entrepotref08_Norm.l2 k x3 0 x286000 x286001 x286002 x286003 x286004 x286005 x286006 x286007) else ((some (([] : List Int) : List Int)).bind fun y301 => (if y301.length + x286007.length < 17592186044416 then (some (x286000, x286001, x286002, x286003, x286004, x286005, x3, (y301 ++ x286007))) else (none))))
def entrepotref08_Norm.l2 : Nat → List (S128) → Int → ByteArray → Int → Int → Int → Int → Int → List (S128) → List Int → Option (ByteArray × Int × Int × Int × Int × Int × (List (S128)) × List Int)
 | 0, _, _, _, _, _, _, _, _, _, _ => none
 | k + 1, x3, x6, x286000, x286001, x286002, x286003, x286004, x286005, x286006, x286007 => if x6 < (x3.length : Int) then (if 0 ≤ x6 then ((some (x3.set (x6 : Int).toNat (⟨wrap64 (Int.tdiv ((rd_T128 x3 x6).f0) 10), (rd_T128 x3 x6).f1, (rd_T128 x3 x6).f2, (rd_T128 x3 x6).f3, (rd_T128 x3 x6).f4, (rd_T128 x3 x6).f5, (rd_T128 x3 x6).f6⟩ : S128) : List (S128))).bind fun y308 => (entrepotref08_Norm.l2 k (y308.set (x6 : Int).toNat (⟨(rd_T128 y308 x6).f0, wrap64 (Int.tdiv ((rd_T128 y308 x6).f1) 10), (rd_T128 y308 x6).f2, (rd_T128 y308 x6).f3, (rd_T128 y308 x6).f4, (rd_T128 y308 x6).f5, (rd_T128 y308 x6).f6⟩ : S128)) (wrap64 (x6 + 1)) x286000 x286001 x286002 x286003 x286004 x286005 x286006 x286007)) else (none)) else (entrepotref08_Norm.l0 k x3 x286000 x286001 x286002 (wrap64 (x286003 - 1)) x286004 x286005 x286006 x286007)
end
def entrepotref08_Norm.f (k : Nat) (a0_0 : ByteArray) (a0_1 : Int) (a0_2 : Int) (a0_3 : Int) (a0_4 : Int) (a0_5 : Int) (l0_6 : List (S128)) (l0_7 : List Int) : Option (ByteArray × Int × Int × Int × Int × Int × (List (S128)) × List Int) := (some (([] : List (S128)) : List (S128))).bind fun y287 => (if y287.length + l0_6.length < 2513169434916 then (entrepotref08_Norm.l0 k (y287 ++ l0_6) a0_0 a0_1 a0_2 a0_3 a0_4 a0_5 l0_6 l0_7) else (none))
set_option maxHeartbeats 8000000 in
set_option maxRecDepth 100000 in
theorem entrepotref08_Norm.calls (k : Nat) (a0_0 : ByteArray) (a0_1 : Int) (a0_2 : Int) (a0_3 : Int) (a0_4 : Int) (a0_5 : Int) (A0_6 : Option Addr) (c0_6 : Nat) (l0_6 : List (S128)) (A0_7 : Option Addr) (c0_7 : Nat) (l0_7 : List Int) (r1 : ByteArray) (r2 : Int) (r3 : Int) (r4 : Int) (r5 : Int) (r6 : Int) (r7 : List (S128)) (r8 : List Int) (w : World) (hr0_6 : Kd.C k128 w A0_6 l0_6.length l0_6) (hc0_6 : l0_6.length ≤ c0_6) (hr0_7 : Kd.C (Kd.int .i64) w A0_7 l0_7.length l0_7) (hc0_7 : l0_7.length ≤ c0_7) (h : entrepotref08_Norm.f k a0_0 a0_1 a0_2 a0_3 a0_4 a0_5 l0_6 l0_7 = some (r1, r2, r3, r4, r5, r6, r7, r8)) :
    Calls Tryz.prog 141 #[.agg #[.string a0_0, .int .i64 a0_1, .int .i64 a0_2, .int .i64 a0_3, .int .i64 a0_4, .int .i64 a0_5, .slice A0_6 l0_6.length c0_6, .slice A0_7 l0_7.length c0_7]] w fun e w' => ∃ v6_ v7_ : Value, e = .returned (.agg #[.string r1, .int .i64 r2, .int .i64 r3, .int .i64 r4, .int .i64 r5, .int .i64 r6, v6_, v7_]) ∧ Kd.R k128 128 w' w.heap.size (fun _ => True) v6_ r7 ∧ Kd.R (Kd.int .i64) 3 w' w.heap.size (fun _ => True) v7_ r8 ∧ Below w.heap.size w w' := by
  have hu51 := Tryz.underlying51
  have HR0_6 := Aside0.mk hr0_6
  have HC0_6 := Aside0.mk hc0_6
  clear hr0_6 hc0_6
  have HR0_7 := Aside0.mk hr0_7
  have HC0_7 := Aside0.mk hc0_7
  clear hr0_7 hc0_7
  have HB := Aside0.mk (Below.refl w.heap.size w)
  have H : ((some (([] : List (S128)) : List (S128))).bind fun y287 => (if y287.length + l0_6.length < 2513169434916 then (entrepotref08_Norm.l0 k (y287 ++ l0_6) a0_0 a0_1 a0_2 a0_3 a0_4 a0_5 l0_6 l0_7) else (none))) = some (r1, r2, r3, r4, r5, r6, r7, r8) := h
  clear h
  obtain ⟨y287, hy287⟩ : ∃ y_ : List (S128), y_ = (([] : List (S128))) := ⟨_, rfl⟩
  replace H : (if y287.length + l0_6.length < 2513169434916 then (entrepotref08_Norm.l0 k (y287 ++ l0_6) a0_0 a0_1 a0_2 a0_3 a0_4 a0_5 l0_6 l0_7) else (none)) = some (r1, r2, r3, r4, r5, r6, r7, r8) := by first | (rw [hy287]; with_reducible exact H) | (have H2_ := (Option.bind_some _ _).symm.trans H; rw [hy287]; with_reducible exact H2_) | (have H2_ := (Option.bind_some _ _).symm.trans H; with_reducible exact H2_) | with_reducible exact H | (rw [hy287]; exact H) | exact H
  have Ny287 := Aside0.mk hy287
  clear hy287
  by_cases c2 : y287.length + l0_6.length < 2513169434916
  · rw [if_pos c2] at H
    have LMc2 := Aside0.mk c2
    clear c2
    obtain ⟨y290, hy290⟩ : ∃ y_ : List (S128), y_ = (y287 ++ l0_6) := ⟨_, rfl⟩
    replace H : (entrepotref08_Norm.l0 k y290 a0_0 a0_1 a0_2 a0_3 a0_4 a0_5 l0_6 l0_7) = some (r1, r2, r3, r4, r5, r6, r7, r8) := by first | (rw [hy290]; with_reducible exact H) | (have H2_ := (Option.bind_some _ _).symm.trans H; rw [hy290]; with_reducible exact H2_) | (have H2_ := (Option.bind_some _ _).symm.trans H; with_reducible exact H2_) | with_reducible exact H | (rw [hy290]; exact H) | exact H
    have Ny290 := Aside0.mk hy290
    clear hy290
    have H' := Aside0.mk H
    clear H
    go_enter Tryz.func141, Tryz.ntmps141
    go_wp2_with (first | ((with_reducible refine gate_dst (N := 1) rfl ?_); refine bx (N := 1) (cs := #[.string a0_0, .int .i64 a0_1, .int .i64 a0_2, .int .i64 a0_3, .int .i64 a0_4, .int .i64 a0_5, .slice A0_6 l0_6.length c0_6, .slice A0_7 l0_7.length c0_7]) (t := 51) ?_; intro gb285 hg w3 hbox hb; have BK285 := am (hbox); have GW285 := am ((zz hg (zb HB))); have GE285 := am ((zz hg (zb HB))); replace HB := am (below_step (zb HB) hb); clear hb hbox hg) | ((with_reducible refine gate_dst (N := 2) rfl ?_); refine bx (N := 2) (cs := #[.string (⟨#[]⟩ : ByteArray), .int .i64 0, .int .i64 0, .int .i64 0, .int .i64 0, .int .i64 0, .slice none 0 0, .slice none 0 0]) (t := 51) ?_; intro gb286 hg w4 hbox hb; have BK286 := am (hbox); have GW286 := am ((zz hg (zb HB))); have GE286 := am ((zz hg (zb HB))); replace HB := am (below_step (zb HB) hb); have NB285_286 := am ((zl hg (zk BK285))); have NB286_285 := am ((zg hg (zk BK285))); replace BK285 := am (blk_below (zk BK285) hb); clear hb hbox hg) | ((with_reducible refine gate_dst (N := 7) rfl ?_); refine Kd.R_lit k128 _ 128 ?hg (N := 7) ?hd (xs := ([] : List (S128))) (inner := []) (ok := fun _ => True) (okp := fun _ => True) ?hr ?hp (fun _ hk => hk) trivial (Below.refl _ _) (Nat.le_refl _) (by simp) ?_; (case hd => rfl); (case hg => rfl); (case hr => first | (go_simp; done) | (go_simp; rfl)); (case hp => exact (Reps.none _ _)); intro v288 w5 ho6 hb hg_ hnew_; clear hg_ hnew_; (first | rw [← Ny287.out] at ho6 | (simp only [Int.reduceToNat] at ho6; rw [← Ny287.out] at ho6)); have HO289 := am (Kd.R_lower ho6 (below_size (zb HB))); replace BK285 := am (blk_below (zk BK285) hb); replace BK286 := am (blk_below (zk BK286) hb); replace HB := am (below_step (zb HB) hb); clear hb ho6; have hnb7 := NB285_286.out; have hnc7 := NB286_285.out; obtain ⟨hcz8_0, hcz8_1, hcz8_2, hcz8_3, hcz8_4, hcz8_5, hcz8_6, hcz8_7, hfz8_0, hfz8_1, hfz8_2, hfz8_3, hfz8_4, hfz8_5, hfz8_6, hfz8_7⟩ := cz8 BK285) | ((with_reducible refine gate_builtin (b := .append) (xs := #[.tmp 7, .tmp 9]) rfl ?_); at_builtin; refine Kd.R_append_rows k128 (w0 := w) w.heap.size rfl (.tmp 7) (.tmp 9) 49 128 (.agg #[(.int .i64 0), (.int .i64 0), (.int .i64 0), (.int .i64 0), (.int .i64 0), (.int .i64 0), (.int .i64 0)]) 56 rfl Tryz.underlying49 info128 rfl (by decide) (by omega) v288 y287 l0_6 _ _ _ (fun _ => True) (fun _ => False) rfl rfl ?aO ?aR (fun _ _ h => h) (fun _ h => h.elim) ?aF ?aB ?aS ?aL ?_; (case aR => repeat (first | exact (Kd.C_below HR0_6.out HB.out) | (with_reducible refine Kd.C_alloc ?_ _) | (with_reducible refine Kd.C_drewN ?_ _) | (with_reducible refine Kd.C_drew ?_))); (case aB => exact (zb HB)); (case aF => exact (fun _ _ => trivial)); (case aO => exact (zr HO289)); (case aS => exact (below_size (zb HB))); (case aL => have := LMc2.out; omega); intro v291 w9 ho hb hg hat; rw [← Ny290.out] at ho; replace BK285 := am (blk_grown (zk BK285) hg (Kd.R_ne HO289.out BK285.out (by decide))); replace BK286 := am (blk_grown (zk BK286) hg (Kd.R_ne HO289.out BK286.out (by decide))); replace HB := am (hb); have HO292 := am (ho); clear HO289; clear ho hb hg hat))
    go_loopg [] k (fun kq w' => ∃ (x3_1 : List (S128)) (x286003_1 : Int), Aside0 (entrepotref08_Norm.l0 kq x3_1 a0_0 a0_1 a0_2 x286003_1 a0_4 a0_5 l0_6 l0_7 = some (r1, r2, r3, r4, r5, r6, r7, r8)) ∧ Aside0 (kq ≤ k) ∧ Aside0 (Kd.R k128 128 w' w.heap.size (fun _ => True) v291 x3_1) ∧ Aside0 (w'.heap[gb285]? = some (.cells #[.string a0_0, .int .i64 a0_1, .int .i64 a0_2, .int .i64 x286003_1, .int .i64 a0_4, .int .i64 a0_5, (.slice A0_6 l0_6.length c0_6), (.slice A0_7 l0_7.length c0_7)] 51 (0, 0))) ∧ Aside0 (w'.heap[gb286]? = some (.cells #[.string (⟨#[]⟩ : ByteArray), .int .i64 0, .int .i64 0, .int .i64 0, .int .i64 0, .int .i64 0, (.slice none 0 0), (.slice none 0 0)] 51 (0, 0))) ∧ Aside0 (Below w.heap.size w w'))
    case atStart => exact ⟨(y290), (a0_3), H', ⟨Nat.le_refl _⟩, ⟨zr HO292⟩, ⟨zk BK285⟩, ⟨zk BK286⟩, ⟨zb HB⟩⟩
    case round =>
      clear H'
      try clear c1
      try clear c2
      try clear p2
      try clear c7
      try clear hcz8_0
      try clear hcz8_1
      try clear hcz8_2
      try clear hcz8_3
      try clear hcz8_4
      try clear hcz8_5
      try clear hcz8_6
      try clear hcz8_7
      try clear hfz8_0
      try clear hfz8_1
      try clear hfz8_2
      try clear hfz8_3
      try clear hfz8_4
      try clear hfz8_5
      try clear hfz8_6
      try clear hfz8_7
      obtain ⟨x3_1, x286003_1, HA, HK1, HO_3, BK285, BK286, HB⟩ := hrel
      cases gk with
      | zero => exact absurd HA.out (by simp [entrepotref08_Norm.l0])
      | succ k1 =>
        have H := HA.out
        clear HA
        simp only [entrepotref08_Norm.l0] at H
        have HC10 := Aside0.mk H
        clear H
        go_upto_region 2 with (fail)
        go_cut [18] (fun v18 wc => ∃ (kq : Nat) (x18_9 : Bool), v18 = .bool x18_9 ∧ Aside0 (entrepotref08_Norm.j1 kq x3_1 x18_9 a0_0 a0_1 a0_2 x286003_1 a0_4 a0_5 l0_6 l0_7 = some (r1, r2, r3, r4, r5, r6, r7, r8)) ∧ Aside0 (kq ≤ k1) ∧ Aside0 (Kd.R k128 128 wc w.heap.size (fun _ => True) v291 x3_1) ∧ Aside0 (wc.heap[gb285]? = some (.cells #[.string a0_0, .int .i64 a0_1, .int .i64 a0_2, .int .i64 x286003_1, .int .i64 a0_4, .int .i64 a0_5, (.slice A0_6 l0_6.length c0_6), (.slice A0_7 l0_7.length c0_7)] 51 (0, 0))) ∧ Aside0 (wc.heap[gb286]? = some (.cells #[.string (⟨#[]⟩ : ByteArray), .int .i64 0, .int .i64 0, .int .i64 0, .int .i64 0, .int .i64 0, (.slice none 0 0), (.slice none 0 0)] 51 (0, 0))) ∧ Aside0 (Below w.heap.size w wc))
        case first =>
          have H := HC10.out
          clear HC10
          by_cases c11 : x286003_1 ≥ 1
          · rw [if_pos c11] at H
            have c11b0 := decide_eq_true c11
            clear c11
            (first | rw [c11b0] | (simp only [i64_w, i32_w]; rw [c11b0]) | skip)
            have H' := Aside0.mk H
            clear H
            have hnb12 := NB285_286.out
            have hnc12 := NB286_285.out
            obtain ⟨hcz13_0, hcz13_1, hcz13_2, hcz13_3, hcz13_4, hcz13_5, hcz13_6, hcz13_7, hfz13_0, hfz13_1, hfz13_2, hfz13_3, hfz13_4, hfz13_5, hfz13_6, hfz13_7⟩ := cz8 BK285
            go_wp2
            go_meet
            case rel => exact ⟨_, (decide (x286003_1 ≤ 6)), zs, H', ⟨by have := HK1.out; first | omega | exact Nat.le_refl _⟩, ⟨zr HO_3⟩, ⟨zk BK285⟩, ⟨zk BK286⟩, ⟨zb HB⟩⟩
          · rw [if_neg c11] at H
            have c11b0 := decide_eq_false c11
            clear c11
            (first | rw [c11b0] | (simp only [i64_w, i32_w]; rw [c11b0]) | skip)
            have H' := Aside0.mk H
            clear H
            have hnb14 := NB285_286.out
            have hnc14 := NB286_285.out
            obtain ⟨hcz15_0, hcz15_1, hcz15_2, hcz15_3, hcz15_4, hcz15_5, hcz15_6, hcz15_7, hfz15_0, hfz15_1, hfz15_2, hfz15_3, hfz15_4, hfz15_5, hfz15_6, hfz15_7⟩ := cz8 BK285
            go_wp2
            go_meet
            case rel => exact ⟨_, (false), zs, H', ⟨by have := HK1.out; first | omega | exact Nat.le_refl _⟩, ⟨zr HO_3⟩, ⟨zk BK285⟩, ⟨zk BK286⟩, ⟨zb HB⟩⟩
        case rest =>
          clear HC10
          try clear c1
          try clear c2
          try clear p2
          try clear c7
          try clear c11
          try clear c11b0
          try clear c12
          try clear c14
          try clear hcz13_0
          try clear hcz13_1
          try clear hcz13_2
          try clear hcz13_3
          try clear hcz13_4
          try clear hcz13_5
          try clear hcz13_6
          try clear hcz13_7
          try clear hcz15_0
          try clear hcz15_1
          try clear hcz15_2
          try clear hcz15_3
          try clear hcz15_4
          try clear hcz15_5
          try clear hcz15_6
          try clear hcz15_7
          try clear hcz8_0
          try clear hcz8_1
          try clear hcz8_2
          try clear hcz8_3
          try clear hcz8_4
          try clear hcz8_5
          try clear hcz8_6
          try clear hcz8_7
          try clear hfz13_0
          try clear hfz13_1
          try clear hfz13_2
          try clear hfz13_3
          try clear hfz13_4
          try clear hfz13_5
          try clear hfz13_6
          try clear hfz13_7
          try clear hfz15_0
          try clear hfz15_1
          try clear hfz15_2
          try clear hfz15_3
          try clear hfz15_4
          try clear hfz15_5
          try clear hfz15_6
          try clear hfz15_7
          try clear hfz8_0
          try clear hfz8_1
          try clear hfz8_2
          try clear hfz8_3
          try clear hfz8_4
          try clear hfz8_5
          try clear hfz8_6
          try clear hfz8_7
          try clear p2
          obtain ⟨kq, x18_9, rfl, HA, HJ9, HO_3, BK285, BK286, HB⟩ := hcut
          cases kq with
          | zero => exact absurd HA.out (by simp [entrepotref08_Norm.j1])
          | succ kj9 =>
            have H := HA.out
            clear HA
            simp only [entrepotref08_Norm.j1] at H
            by_cases c16 : x18_9 = true
            · subst c16
              rw [if_pos rfl] at H
              have H' := Aside0.mk H
              clear H
              go_wp2
              go_loopg [4, 5] kj9 (fun kq v4 v5 w' => ∃ (x4_3 : Bool) (x5_3 : Int), v4 = .bool x4_3 ∧ v5 = .int .i64 x5_3 ∧ Aside0 (entrepotref08_Norm.l1 kq x3_1 x4_3 x5_3 a0_0 a0_1 a0_2 x286003_1 a0_4 a0_5 l0_6 l0_7 = some (r1, r2, r3, r4, r5, r6, r7, r8)) ∧ Aside0 (kq ≤ kj9) ∧ Aside0 (Kd.R k128 128 w' w.heap.size (fun _ => True) v291 x3_1) ∧ Aside0 (w'.heap[gb285]? = some (.cells #[.string a0_0, .int .i64 a0_1, .int .i64 a0_2, .int .i64 x286003_1, .int .i64 a0_4, .int .i64 a0_5, (.slice A0_6 l0_6.length c0_6), (.slice A0_7 l0_7.length c0_7)] 51 (0, 0))) ∧ Aside0 (w'.heap[gb286]? = some (.cells #[.string (⟨#[]⟩ : ByteArray), .int .i64 0, .int .i64 0, .int .i64 0, .int .i64 0, .int .i64 0, (.slice none 0 0), (.slice none 0 0)] 51 (0, 0))) ∧ Aside0 (Below w.heap.size w w'))
              case atStart => exact ⟨(true), (0), zs, zs, H', ⟨Nat.le_refl _⟩, ⟨zr HO_3⟩, ⟨zk BK285⟩, ⟨zk BK286⟩, ⟨zb HB⟩⟩
              case round =>
                clear H'
                try clear c1
                try clear c2
                try clear p2
                try clear c7
                try clear c11
                try clear c11b0
                try clear c12
                try clear c14
                try clear c16
                try clear hcz13_0
                try clear hcz13_1
                try clear hcz13_2
                try clear hcz13_3
                try clear hcz13_4
                try clear hcz13_5
                try clear hcz13_6
                try clear hcz13_7
                try clear hcz15_0
                try clear hcz15_1
                try clear hcz15_2
                try clear hcz15_3
                try clear hcz15_4
                try clear hcz15_5
                try clear hcz15_6
                try clear hcz15_7
                try clear hcz8_0
                try clear hcz8_1
                try clear hcz8_2
                try clear hcz8_3
                try clear hcz8_4
                try clear hcz8_5
                try clear hcz8_6
                try clear hcz8_7
                try clear hfz13_0
                try clear hfz13_1
                try clear hfz13_2
                try clear hfz13_3
                try clear hfz13_4
                try clear hfz13_5
                try clear hfz13_6
                try clear hfz13_7
                try clear hfz15_0
                try clear hfz15_1
                try clear hfz15_2
                try clear hfz15_3
                try clear hfz15_4
                try clear hfz15_5
                try clear hfz15_6
                try clear hfz15_7
                try clear hfz8_0
                try clear hfz8_1
                try clear hfz8_2
                try clear hfz8_3
                try clear hfz8_4
                try clear hfz8_5
                try clear hfz8_6
                try clear hfz8_7
                try clear p2
                obtain ⟨x4_3, x5_3, rfl, rfl, HA, HK3, HO_3, BK285, BK286, HB⟩ := hrel
                cases gk with
                | zero => exact absurd HA.out (by simp [entrepotref08_Norm.l1])
                | succ k3 =>
                  have H := HA.out
                  clear HA
                  simp only [entrepotref08_Norm.l1] at H
                  by_cases c17 : x5_3 < (x3_1.length : Int)
                  · rw [if_pos c17] at H
                    have c17b0 := decide_eq_true c17
                    clear c17
                    by_cases c18 : x4_3 = true
                    · subst c18
                      rw [if_pos rfl] at H
                      by_cases c19 : 0 ≤ x5_3
                      · rw [if_pos c19] at H
                        have c19b0 := decide_eq_true c19
                        clear c19
                        by_cases c20 : (Int.tmod ((rd_T128 x3_1 x5_3).f0) 10) = 0
                        · rw [if_pos c20] at H
                          have c20b0 := beq_iff_eq.mpr c20
                          have c20b1 := bne_eq_false_iff_eq.mpr c20
                          clear c20
                          have H' := Aside0.mk H
                          clear H
                          obtain ⟨Ao21, co21, eo21⟩ := Kd.R_slice HO_3.out
                          subst eo21
                          have p299 : 0 ≤ (x5_3 : Int) := of_decide_eq_true za
                          have q299 : x5_3 < (x3_1.length : Int) := of_decide_eq_true za
                          obtain ⟨ad299, e299, hx299_0, hx299_1, hx299_2, hx299_3, hx299_4, hx299_5, hx299_6⟩ := at_T128 (Kd.R_reads' HO_3.out).2.2 x5_3 p299 q299
                          cases e299
                          replace p299 := eq_true p299
                          replace q299 := eq_true q299
                          have p300 : 0 ≤ (x5_3 : Int) := of_decide_eq_true za
                          have q300 : x5_3 < (x3_1.length : Int) := of_decide_eq_true za
                          obtain ⟨ad300, e300, hx300_0, hx300_1, hx300_2, hx300_3, hx300_4, hx300_5, hx300_6⟩ := at_T128 (Kd.R_reads' HO_3.out).2.2 x5_3 p300 q300
                          obtain rfl : ad299 = ad300 := (by injection e300)
                          replace p300 := eq_true p300
                          replace q300 := eq_true q300
                          go_wp2
                          go_roundg k3
                          case measure => have := HK1.out; have := HJ9.out; have := HK3.out; omega
                          case rel => exact ⟨(((Int.tmod ((rd_T128 x3_1 x5_3).f1) 10) == 0)), (wrap64 (x5_3 + 1)), zs, zs, H', ⟨by have := HK1.out; have := HJ9.out; have := HK3.out; omega⟩, ⟨zr HO_3⟩, ⟨zk BK285⟩, ⟨zk BK286⟩, ⟨zb HB⟩⟩
                        · rw [if_neg c20] at H
                          have c20b0 := beq_eq_false_iff_ne.mpr c20
                          have c20b1 := bne_iff_ne.mpr c20
                          have H' := Aside0.mk H
                          clear H
                          obtain ⟨Ao22, co22, eo22⟩ := Kd.R_slice HO_3.out
                          subst eo22
                          have p299 : 0 ≤ (x5_3 : Int) := of_decide_eq_true za
                          have q299 : x5_3 < (x3_1.length : Int) := of_decide_eq_true za
                          obtain ⟨ad299, e299, hx299_0, hx299_1, hx299_2, hx299_3, hx299_4, hx299_5, hx299_6⟩ := at_T128 (Kd.R_reads' HO_3.out).2.2 x5_3 p299 q299
                          cases e299
                          replace p299 := eq_true p299
                          replace q299 := eq_true q299
                          go_wp2
                          go_roundg k3
                          case measure => have := HK1.out; have := HJ9.out; have := HK3.out; omega
                          case rel => exact ⟨(false), (wrap64 (x5_3 + 1)), zs, zs, H', ⟨by have := HK1.out; have := HJ9.out; have := HK3.out; omega⟩, ⟨zr HO_3⟩, ⟨zk BK285⟩, ⟨zk BK286⟩, ⟨zb HB⟩⟩
                      · rw [if_neg c19] at H
                        exact absurd H (by simp)
                    · replace c18 := Bool.eq_false_iff.mpr c18
                      subst c18
                      rw [if_neg (show ¬ (false = true) by decide)] at H
                      have H' := Aside0.mk H
                      clear H
                      obtain ⟨Ao23, co23, eo23⟩ := Kd.R_slice HO_3.out
                      subst eo23
                      go_wp2
                      go_roundg k3
                      case measure => have := HK1.out; have := HJ9.out; have := HK3.out; omega
                      case rel => exact ⟨(false), (wrap64 (x5_3 + 1)), zs, zs, H', ⟨by have := HK1.out; have := HJ9.out; have := HK3.out; omega⟩, ⟨zr HO_3⟩, ⟨zk BK285⟩, ⟨zk BK286⟩, ⟨zb HB⟩⟩
                  · rw [if_neg c17] at H
                    have c17b0 := decide_eq_false c17
                    clear c17
                    by_cases c24 : x4_3 = true
                    · subst c24
                      rw [if_pos rfl] at H
                      have H' := Aside0.mk H
                      clear H
                      obtain ⟨Ao25, co25, eo25⟩ := Kd.R_slice HO_3.out
                      subst eo25
                      go_wp2
                      go_loopg [6] k3 (fun kq v6 w' => ∃ (x3_4 : List (S128)) (x6_4 : Int), v6 = .int .i64 x6_4 ∧ Aside0 (entrepotref08_Norm.l2 kq x3_4 x6_4 a0_0 a0_1 a0_2 x286003_1 a0_4 a0_5 l0_6 l0_7 = some (r1, r2, r3, r4, r5, r6, r7, r8)) ∧ Aside0 (kq ≤ k3) ∧ Aside0 (Kd.R k128 128 w' w.heap.size (fun _ => True) (.slice Ao25 x3_1.length co25) x3_4) ∧ Aside0 (w'.heap[gb285]? = some (.cells #[.string a0_0, .int .i64 a0_1, .int .i64 a0_2, .int .i64 x286003_1, .int .i64 a0_4, .int .i64 a0_5, (.slice A0_6 l0_6.length c0_6), (.slice A0_7 l0_7.length c0_7)] 51 (0, 0))) ∧ Aside0 (w'.heap[gb286]? = some (.cells #[.string (⟨#[]⟩ : ByteArray), .int .i64 0, .int .i64 0, .int .i64 0, .int .i64 0, .int .i64 0, (.slice none 0 0), (.slice none 0 0)] 51 (0, 0))) ∧ Aside0 (Below w.heap.size w w'))
                      case atStart => exact ⟨(x3_1), (0), zs, H', ⟨Nat.le_refl _⟩, ⟨zr HO_3⟩, ⟨zk BK285⟩, ⟨zk BK286⟩, ⟨zb HB⟩⟩
                      case round =>
                        clear H'
                        try clear c1
                        try clear c2
                        try clear p2
                        try clear q2
                        try clear hx2
                        try clear p3
                        try clear q3
                        try clear hx3
                        try clear p6
                        try clear c7
                        try clear c11
                        try clear c11b0
                        try clear c12
                        try clear c14
                        try clear c16
                        try clear c17
                        try clear c17b0
                        try clear c18
                        try clear c19
                        try clear c19b0
                        try clear c20
                        try clear c20b0
                        try clear c20b1
                        try clear c24
                        try clear hcz13_0
                        try clear hcz13_1
                        try clear hcz13_2
                        try clear hcz13_3
                        try clear hcz13_4
                        try clear hcz13_5
                        try clear hcz13_6
                        try clear hcz13_7
                        try clear hcz15_0
                        try clear hcz15_1
                        try clear hcz15_2
                        try clear hcz15_3
                        try clear hcz15_4
                        try clear hcz15_5
                        try clear hcz15_6
                        try clear hcz15_7
                        try clear hcz8_0
                        try clear hcz8_1
                        try clear hcz8_2
                        try clear hcz8_3
                        try clear hcz8_4
                        try clear hcz8_5
                        try clear hcz8_6
                        try clear hcz8_7
                        try clear hfz13_0
                        try clear hfz13_1
                        try clear hfz13_2
                        try clear hfz13_3
                        try clear hfz13_4
                        try clear hfz13_5
                        try clear hfz13_6
                        try clear hfz13_7
                        try clear hfz15_0
                        try clear hfz15_1
                        try clear hfz15_2
                        try clear hfz15_3
                        try clear hfz15_4
                        try clear hfz15_5
                        try clear hfz15_6
                        try clear hfz15_7
                        try clear hfz8_0
                        try clear hfz8_1
                        try clear hfz8_2
                        try clear hfz8_3
                        try clear hfz8_4
                        try clear hfz8_5
                        try clear hfz8_6
                        try clear hfz8_7
                        try clear hx299_0
                        try clear hx299_1
                        try clear hx299_2
                        try clear hx299_3
                        try clear hx299_4
                        try clear hx299_5
                        try clear hx299_6
                        try clear hx300_0
                        try clear hx300_1
                        try clear hx300_2
                        try clear hx300_3
                        try clear hx300_4
                        try clear hx300_5
                        try clear hx300_6
                        try clear p2
                        try clear p299
                        try clear p300
                        try clear q299
                        try clear q300
                        obtain ⟨x3_4, x6_4, rfl, HA, HK4, HO_3, BK285, BK286, HB⟩ := hrel
                        have hl3_4 := (Kd.R_reads' HO_3.out).1
                        rw [hl3_4] at HO_3
                        (try simp only [hl3_4])
                        (try simp only [hl3_4] at BK285)
                        (try simp only [hl3_4] at BK286)
                        cases gk with
                        | zero => exact absurd HA.out (by simp [entrepotref08_Norm.l2])
                        | succ k4 =>
                          have H := HA.out
                          clear HA
                          simp only [entrepotref08_Norm.l2] at H
                          by_cases c26 : x6_4 < (x3_4.length : Int)
                          · rw [if_pos c26] at H
                            have c26b0 := decide_eq_true c26
                            clear c26
                            by_cases c27 : 0 ≤ x6_4
                            · rw [if_pos c27] at H
                              have c27b0 := decide_eq_true c27
                              clear c27
                              obtain ⟨y308, hy308⟩ : ∃ y_ : List (S128), y_ = (x3_4.set (x6_4 : Int).toNat (⟨wrap64 (Int.tdiv ((rd_T128 x3_4 x6_4).f0) 10), (rd_T128 x3_4 x6_4).f1, (rd_T128 x3_4 x6_4).f2, (rd_T128 x3_4 x6_4).f3, (rd_T128 x3_4 x6_4).f4, (rd_T128 x3_4 x6_4).f5, (rd_T128 x3_4 x6_4).f6⟩ : S128)) := ⟨_, rfl⟩
                              replace H : (entrepotref08_Norm.l2 k4 (y308.set (x6_4 : Int).toNat (⟨(rd_T128 y308 x6_4).f0, wrap64 (Int.tdiv ((rd_T128 y308 x6_4).f1) 10), (rd_T128 y308 x6_4).f2, (rd_T128 y308 x6_4).f3, (rd_T128 y308 x6_4).f4, (rd_T128 y308 x6_4).f5, (rd_T128 y308 x6_4).f6⟩ : S128)) (wrap64 (x6_4 + 1)) a0_0 a0_1 a0_2 x286003_1 a0_4 a0_5 l0_6 l0_7) = some (r1, r2, r3, r4, r5, r6, r7, r8) := by first | (rw [hy308]; with_reducible exact H) | (have H2_ := (Option.bind_some _ _).symm.trans H; rw [hy308]; with_reducible exact H2_) | (have H2_ := (Option.bind_some _ _).symm.trans H; with_reducible exact H2_) | with_reducible exact H | (rw [hy308]; exact H) | exact H
                              have Ny308 := Aside0.mk hy308
                              clear hy308
                              obtain ⟨y310, hy310⟩ : ∃ y_ : List (S128), y_ = (y308.set (x6_4 : Int).toNat (⟨(rd_T128 y308 x6_4).f0, wrap64 (Int.tdiv ((rd_T128 y308 x6_4).f1) 10), (rd_T128 y308 x6_4).f2, (rd_T128 y308 x6_4).f3, (rd_T128 y308 x6_4).f4, (rd_T128 y308 x6_4).f5, (rd_T128 y308 x6_4).f6⟩ : S128)) := ⟨_, rfl⟩
                              replace H : (entrepotref08_Norm.l2 k4 y310 (wrap64 (x6_4 + 1)) a0_0 a0_1 a0_2 x286003_1 a0_4 a0_5 l0_6 l0_7) = some (r1, r2, r3, r4, r5, r6, r7, r8) := by first | (rw [hy310]; with_reducible exact H) | (have H2_ := (Option.bind_some _ _).symm.trans H; rw [hy310]; with_reducible exact H2_) | (have H2_ := (Option.bind_some _ _).symm.trans H; with_reducible exact H2_) | with_reducible exact H | (rw [hy310]; exact H) | exact H
                              have Ny310 := Aside0.mk hy310
                              clear hy310
                              have H' := Aside0.mk H
                              clear H
                              have p307 : 0 ≤ (x6_4 : Int) := of_decide_eq_true za
                              have q307 : x6_4 < (x3_4.length : Int) := of_decide_eq_true za
                              obtain ⟨ad307, e307, hx307_0, hx307_1, hx307_2, hx307_3, hx307_4, hx307_5, hx307_6⟩ := at_T128 (Kd.R_reads' HO_3.out).2.2 x6_4 p307 q307
                              cases e307
                              replace p307 := eq_true p307
                              replace q307 := eq_true q307
                              have p28 : 0 ≤ (x6_4 : Int) := of_decide_eq_true za
                              have q28 : (x6_4 : Int) < ((x3_4.length : Int) : Int) := of_decide_eq_true za
                              obtain ⟨go28, co28, eo28, gb28, gl28, cl28, HG28⟩ := Kd.R_form HO_3.out (by omega)
                              (first | cases eo28 | (injection eo28 with ea_ en_ ec_; (first | subst ea_ | (injection ea_ with ea_; subst ea_)); subst ec_; clear en_))
                              have GB28 := Aside0.mk gb28
                              have GG28 := Aside0.mk HG28
                              clear gb28 gl28 HG28
                              (first | simp only [add_plain] at hx307_0 | skip)
                              (first | simp only [add_plain] at hx307_1 | skip)
                              (first | simp only [add_plain] at hx307_2 | skip)
                              (first | simp only [add_plain] at hx307_3 | skip)
                              (first | simp only [add_plain] at hx307_4 | skip)
                              (first | simp only [add_plain] at hx307_5 | skip)
                              (first | simp only [add_plain] at hx307_6 | skip)
                              obtain ⟨ce28, hcl28, hM28, hcc28, hfr28⟩ := Kd.R_elem HO_3.out z128 (x6_4 : Int) p28 q28
                              obtain rfl := k128_openM hM28
                              have hx28_0 : wr.cell? ⟨go28, (x6_4 : Int).toNat * 7, none⟩ = some (.int .i64 ((rd_T128 x3_4 x6_4).f0)) := hcc28 0 _ rfl
                              have hx28_1 : wr.cell? ⟨go28, (x6_4 : Int).toNat * 7 + 1, none⟩ = some (.int .i64 ((rd_T128 x3_4 x6_4).f1)) := hcc28 1 _ rfl
                              have hx28_2 : wr.cell? ⟨go28, (x6_4 : Int).toNat * 7 + 2, none⟩ = some (.int .i64 ((rd_T128 x3_4 x6_4).f2)) := hcc28 2 _ rfl
                              have hx28_3 : wr.cell? ⟨go28, (x6_4 : Int).toNat * 7 + 3, none⟩ = some (.int .i64 ((rd_T128 x3_4 x6_4).f3)) := hcc28 3 _ rfl
                              have hx28_4 : wr.cell? ⟨go28, (x6_4 : Int).toNat * 7 + 4, none⟩ = some (.int .i64 ((rd_T128 x3_4 x6_4).f4)) := hcc28 4 _ rfl
                              have hx28_5 : wr.cell? ⟨go28, (x6_4 : Int).toNat * 7 + 5, none⟩ = some (.int .i64 ((rd_T128 x3_4 x6_4).f5)) := hcc28 5 _ rfl
                              have hx28_6 : wr.cell? ⟨go28, (x6_4 : Int).toNat * 7 + 6, none⟩ = some (.int .i64 ((rd_T128 x3_4 x6_4).f6)) := hcc28 6 _ rfl
                              have hf28_0 : wr.frozen? ⟨go28, (x6_4 : Int).toNat * 7, none⟩ = false := hfr28 0
                              have hf28_1 : wr.frozen? ⟨go28, (x6_4 : Int).toNat * 7 + 1, none⟩ = false := hfr28 1
                              have hf28_2 : wr.frozen? ⟨go28, (x6_4 : Int).toNat * 7 + 2, none⟩ = false := hfr28 2
                              have hf28_3 : wr.frozen? ⟨go28, (x6_4 : Int).toNat * 7 + 3, none⟩ = false := hfr28 3
                              have hf28_4 : wr.frozen? ⟨go28, (x6_4 : Int).toNat * 7 + 4, none⟩ = false := hfr28 4
                              have hf28_5 : wr.frozen? ⟨go28, (x6_4 : Int).toNat * 7 + 5, none⟩ = false := hfr28 5
                              have hf28_6 : wr.frozen? ⟨go28, (x6_4 : Int).toNat * 7 + 6, none⟩ = false := hfr28 6
                              clear hcl28 hcc28 hfr28 hM28
                              replace p28 := eq_true p28
                              replace q28 := eq_true q28
                              have HX30 := Aside0.mk (show Kd.R k128 128 wr w.heap.size (fun _ => True) (.slice (some ⟨go28, 0, none⟩) x3_4.length co25) x3_4 from (zr HO_3))
                              obtain ⟨ce30, hcl30, hM30, hcc30, hfr30⟩ := Kd.R_elem HX30.out z128 (x6_4 : Int) (of_decide_eq_true za) (by have h_ : (x6_4 : Int) < ((x3_4.length : Int) : Int) := of_decide_eq_true za; first | exact h_ | (have e_ := (Kd.R_reads' HO_3.out).1; omega) | simpa using h_)
                              obtain rfl := k128_openM hM30
                              have HP30 := Kd.R_seg HX30.out (x6_4 : Int) (of_decide_eq_true za) (by have h_ : (x6_4 : Int) < ((x3_4.length : Int) : Int) := of_decide_eq_true za; first | exact h_ | (have e_ := (Kd.R_reads' HO_3.out).1; omega) | simpa using h_) (seg := [.int .i64 (wrap64 (Int.tdiv ((rd_T128 x3_4 x6_4).f0) 10))]) (j := 0) hcl30 hcc30 (show 1 ≤ 7 from by decide) (x' := (⟨wrap64 (Int.tdiv ((rd_T128 x3_4 x6_4).f0) 10), (rd_T128 x3_4 x6_4).f1, (rd_T128 x3_4 x6_4).f2, (rd_T128 x3_4 x6_4).f3, (rd_T128 x3_4 x6_4).f4, (rd_T128 x3_4 x6_4).f5, (rd_T128 x3_4 x6_4).f6⟩ : S128)) (k128_mkM _ _ _ (⟨wrap64 (Int.tdiv ((rd_T128 x3_4 x6_4).f0) 10), (rd_T128 x3_4 x6_4).f1, (rd_T128 x3_4 x6_4).f2, (rd_T128 x3_4 x6_4).f3, (rd_T128 x3_4 x6_4).f4, (rd_T128 x3_4 x6_4).f5, (rd_T128 x3_4 x6_4).f6⟩ : S128) ) (fun _ hk => hk)
                              have hx30_0 := hcc30 0 _ rfl
                              (try simp only [show (k128).sz = 7 from rfl, Nat.mul_one, Nat.add_zero] at hx30_0)
                              have hf30_0 := hfr30 0
                              (try simp only [show (k128).sz = 7 from rfl, Nat.mul_one, Nat.add_zero] at hf30_0)
                              clear hcl30 hcc30 hfr30 hM30
                              go_wp2_with (first | ((with_reducible refine gate_store (t := 3) (p := 61) rfl ?_); refine store_event (t := 3) (p := 61) (v := ?vo_w31) (w1 := (wr.setCell ⟨go28, (x6_4 : Int).toNat * 7, none⟩ (.int .i64 (wrap64 (Int.tdiv ((rd_T128 x3_4 x6_4).f0) 10))))) ?hg ?ho ?hn ?hr ?_; (case ho => rfl); (case hg => rfl); (case hn => rfl); (case hr => first | (go_simp; done) | (go_simp; rfl)); intro w31 hw; have hg : wr.grownBy w31 (some go28) := (by rw [hw]; exact HP30.2); have hp_ : Kd.R k128 128 w31 w.heap.size (fun _ => True) (.slice (some ⟨go28, 0, none⟩) x3_4.length co25) y308 := (by rw [hw, Ny308.out]; exact HP30.1); clear HP30; replace BK285 := am (blk_grown (zk BK285) hg (Kd.R_ne HO_3.out BK285.out (by decide))); replace BK286 := am (blk_grown (zk BK286) hg (Kd.R_ne HO_3.out BK286.out (by decide))); replace HO_3 := am (hp_); replace HB := am ((by rw [hw]; exact below_set (HB.out) GB28.out : Below w.heap.size w w31)); clear hg hw hp_; have p309 : 0 ≤ (x6_4 : Int) := of_decide_eq_true za; have q309 : x6_4 < (y308.length : Int) := (by have h_ : (x6_4 : Int) < ((x3_4.length : Int) : Int) := of_decide_eq_true za; first | (have e_ := (Kd.R_reads' HO_3.out).1; omega) | simpa only [Ny308.out, List.length_set] using h_); have ql309 : ((x6_4 : Int) < ((x3_4.length : Int) : Int)) = True := eq_true (of_decide_eq_true za); obtain ⟨ad309, e309, hx309_0, hx309_1, hx309_2, hx309_3, hx309_4, hx309_5, hx309_6⟩ := at_T128 (Kd.R_reads' HO_3.out).2.2 x6_4 p309 q309; obtain rfl : (⟨go28, 0, none⟩ : Addr) = ad309 := (by injection e309); (first | simp only [add_plain] at hx309_0 | simp only [add_at] at hx309_0 | simp only [Addr.add, Nat.zero_add] at hx309_0 | skip); (first | simp only [add_plain] at hx309_1 | simp only [add_at] at hx309_1 | simp only [Addr.add, Nat.zero_add] at hx309_1 | skip); (first | simp only [add_plain] at hx309_2 | simp only [add_at] at hx309_2 | simp only [Addr.add, Nat.zero_add] at hx309_2 | skip); (first | simp only [add_plain] at hx309_3 | simp only [add_at] at hx309_3 | simp only [Addr.add, Nat.zero_add] at hx309_3 | skip); (first | simp only [add_plain] at hx309_4 | simp only [add_at] at hx309_4 | simp only [Addr.add, Nat.zero_add] at hx309_4 | skip); (first | simp only [add_plain] at hx309_5 | simp only [add_at] at hx309_5 | simp only [Addr.add, Nat.zero_add] at hx309_5 | skip); (first | simp only [add_plain] at hx309_6 | simp only [add_at] at hx309_6 | simp only [Addr.add, Nat.zero_add] at hx309_6 | skip); replace p309 := eq_true p309; replace q309 := eq_true q309; have p29 : 0 ≤ (x6_4 : Int) := of_decide_eq_true za; have q29 : (x6_4 : Int) < ((x3_4.length : Int) : Int) := of_decide_eq_true za; obtain ⟨ce29, hcl29, hM29, hcc29, hfr29⟩ := Kd.R_elem HO_3.out z128 (x6_4 : Int) p29 q29; obtain rfl := k128_openM hM29; have hx29_0 : w31.cell? ⟨go28, (x6_4 : Int).toNat * 7, none⟩ = some (.int .i64 ((rd_T128 y308 x6_4).f0)) := hcc29 0 _ rfl; have hx29_1 : w31.cell? ⟨go28, (x6_4 : Int).toNat * 7 + 1, none⟩ = some (.int .i64 ((rd_T128 y308 x6_4).f1)) := hcc29 1 _ rfl; have hx29_2 : w31.cell? ⟨go28, (x6_4 : Int).toNat * 7 + 2, none⟩ = some (.int .i64 ((rd_T128 y308 x6_4).f2)) := hcc29 2 _ rfl; have hx29_3 : w31.cell? ⟨go28, (x6_4 : Int).toNat * 7 + 3, none⟩ = some (.int .i64 ((rd_T128 y308 x6_4).f3)) := hcc29 3 _ rfl; have hx29_4 : w31.cell? ⟨go28, (x6_4 : Int).toNat * 7 + 4, none⟩ = some (.int .i64 ((rd_T128 y308 x6_4).f4)) := hcc29 4 _ rfl; have hx29_5 : w31.cell? ⟨go28, (x6_4 : Int).toNat * 7 + 5, none⟩ = some (.int .i64 ((rd_T128 y308 x6_4).f5)) := hcc29 5 _ rfl; have hx29_6 : w31.cell? ⟨go28, (x6_4 : Int).toNat * 7 + 6, none⟩ = some (.int .i64 ((rd_T128 y308 x6_4).f6)) := hcc29 6 _ rfl; have hf29_0 : w31.frozen? ⟨go28, (x6_4 : Int).toNat * 7, none⟩ = false := hfr29 0; have hf29_1 : w31.frozen? ⟨go28, (x6_4 : Int).toNat * 7 + 1, none⟩ = false := hfr29 1; have hf29_2 : w31.frozen? ⟨go28, (x6_4 : Int).toNat * 7 + 2, none⟩ = false := hfr29 2; have hf29_3 : w31.frozen? ⟨go28, (x6_4 : Int).toNat * 7 + 3, none⟩ = false := hfr29 3; have hf29_4 : w31.frozen? ⟨go28, (x6_4 : Int).toNat * 7 + 4, none⟩ = false := hfr29 4; have hf29_5 : w31.frozen? ⟨go28, (x6_4 : Int).toNat * 7 + 5, none⟩ = false := hfr29 5; have hf29_6 : w31.frozen? ⟨go28, (x6_4 : Int).toNat * 7 + 6, none⟩ = false := hfr29 6; clear hcl29 hcc29 hfr29 hM29; replace p29 := eq_true p29; replace q29 := eq_true q29; have HX32 := Aside0.mk (show Kd.R k128 128 w31 w.heap.size (fun _ => True) (.slice (some ⟨go28, 0, none⟩) x3_4.length co25) y308 from (zr HO_3)); obtain ⟨ce32, hcl32, hM32, hcc32, hfr32⟩ := Kd.R_elem HX32.out z128 (x6_4 : Int) (of_decide_eq_true za) (by have h_ : (x6_4 : Int) < ((x3_4.length : Int) : Int) := of_decide_eq_true za; first | exact h_ | (have e_ := (Kd.R_reads' HO_3.out).1; omega) | simpa using h_); obtain rfl := k128_openM hM32; have HP32 := Kd.R_seg HX32.out (x6_4 : Int) (of_decide_eq_true za) (by have h_ : (x6_4 : Int) < ((x3_4.length : Int) : Int) := of_decide_eq_true za; first | exact h_ | (have e_ := (Kd.R_reads' HO_3.out).1; omega) | simpa using h_) (seg := [.int .i64 (wrap64 (Int.tdiv ((rd_T128 y308 x6_4).f1) 10))]) (j := 1) hcl32 hcc32 (show 2 ≤ 7 from by decide) (x' := (⟨(rd_T128 y308 x6_4).f0, wrap64 (Int.tdiv ((rd_T128 y308 x6_4).f1) 10), (rd_T128 y308 x6_4).f2, (rd_T128 y308 x6_4).f3, (rd_T128 y308 x6_4).f4, (rd_T128 y308 x6_4).f5, (rd_T128 y308 x6_4).f6⟩ : S128)) (k128_mkM _ _ _ (⟨(rd_T128 y308 x6_4).f0, wrap64 (Int.tdiv ((rd_T128 y308 x6_4).f1) 10), (rd_T128 y308 x6_4).f2, (rd_T128 y308 x6_4).f3, (rd_T128 y308 x6_4).f4, (rd_T128 y308 x6_4).f5, (rd_T128 y308 x6_4).f6⟩ : S128) ) (fun _ hk => hk); have hx32_1 := hcc32 1 _ rfl; (try simp only [show (k128).sz = 7 from rfl, Nat.mul_one, Nat.add_zero] at hx32_1); have hf32_1 := hfr32 1; (try simp only [show (k128).sz = 7 from rfl, Nat.mul_one, Nat.add_zero] at hf32_1); clear hcl32 hcc32 hfr32 hM32) | ((with_reducible refine gate_store (t := 3) (p := 71) rfl ?_); refine store_event (t := 3) (p := 71) (v := ?vo_w33) (w1 := (w31.setCell ⟨go28, (x6_4 : Int).toNat * 7 + 1, none⟩ (.int .i64 (wrap64 (Int.tdiv ((rd_T128 y308 x6_4).f1) 10))))) ?hg ?ho ?hn ?hr ?_; (case ho => rfl); (case hg => rfl); (case hn => rfl); (case hr => first | (go_simp; done) | (go_simp; rfl)); intro w33 hw; have hg : w31.grownBy w33 (some go28) := (by rw [hw]; exact HP32.2); have hp_ : Kd.R k128 128 w33 w.heap.size (fun _ => True) (.slice (some ⟨go28, 0, none⟩) x3_4.length co25) y310 := (by rw [hw, Ny310.out]; exact HP32.1); clear HP32; replace BK285 := am (blk_grown (zk BK285) hg (Kd.R_ne HO_3.out BK285.out (by decide))); replace BK286 := am (blk_grown (zk BK286) hg (Kd.R_ne HO_3.out BK286.out (by decide))); replace HO_3 := am (hp_); replace HB := am ((by rw [hw]; exact below_set (HB.out) GB28.out : Below w.heap.size w w33)); clear hg hw hp_))
                              (try simp only [← hl3_4])
                              go_roundg k4
                              case measure => have := HK1.out; have := HJ9.out; have := HK3.out; have := HK4.out; omega
                              case rel => exact ⟨(y310), (wrap64 (x6_4 + 1)), zs, H', ⟨by have := HK1.out; have := HJ9.out; have := HK3.out; have := HK4.out; omega⟩, ⟨by (try simp only [hl3_4]); (with_reducible repeat (first | apply Kd.R_alloc | apply Kd.R_drewN | apply Kd.R_drew)); exact HO_3.out⟩, ⟨by (try simp only [hl3_4]); (with_reducible repeat (first | refine blk_drewN ?_ _ | refine blk_drew ?_ | refine blk_alloc ?_ _)); exact BK285.out⟩, ⟨by (try simp only [hl3_4]); (with_reducible repeat (first | refine blk_drewN ?_ _ | refine blk_drew ?_ | refine blk_alloc ?_ _)); exact BK286.out⟩, ⟨zb HB⟩⟩
                            · rw [if_neg c27] at H
                              exact absurd H (by simp)
                          · rw [if_neg c26] at H
                            have c26b0 := decide_eq_false c26
                            clear c26
                            have H' := Aside0.mk H
                            clear H
                            have hnb34 := NB285_286.out
                            have hnc34 := NB286_285.out
                            obtain ⟨hcz35_0, hcz35_1, hcz35_2, hcz35_3, hcz35_4, hcz35_5, hcz35_6, hcz35_7, hfz35_0, hfz35_1, hfz35_2, hfz35_3, hfz35_4, hfz35_5, hfz35_6, hfz35_7⟩ := cz8 BK285
                            go_wp2
                            (try simp only [← hl3_4])
                            go_roundg k4
                            case measure => have := HK1.out; have := HJ9.out; have := HK3.out; have := HK4.out; omega
                            case rel => exact ⟨(x3_4), (wrap64 (x286003_1 - 1)), H', ⟨by have := HK1.out; have := HJ9.out; have := HK3.out; have := HK4.out; omega⟩, ⟨by (try simp only [hl3_4]); (with_reducible repeat (first | apply Kd.R_alloc | apply Kd.R_drewN | apply Kd.R_drew)); exact Kd.R_mono (Kd.R_far (p := ⟨gb285, 3, none⟩) (Kd.R_types HO_3.out BK285.out (by decide)) (fun _ hk => hk.2) (.int .i64 (wrap64 (x286003_1 - 1)))) (fun _ hk => trivial)⟩, ⟨by (try simp only [hl3_4]); (with_reducible repeat (first | refine blk_drewN ?_ _ | refine blk_drew ?_ | refine blk_alloc ?_ _)); refine blk_put (cs := #[.string a0_0, .int .i64 a0_1, .int .i64 a0_2, .int .i64 x286003_1, .int .i64 a0_4, .int .i64 a0_5, .slice A0_6 l0_6.length c0_6, .slice A0_7 l0_7.length c0_7]) ?_ 3 _ rfl; (with_reducible repeat (first | refine blk_drewN ?_ _ | refine blk_drew ?_ | refine blk_alloc ?_ _)); exact BK285.out⟩, ⟨by (try simp only [hl3_4]); (with_reducible repeat (first | refine blk_drewN ?_ _ | refine blk_drew ?_ | refine blk_alloc ?_ _)); refine blk_far ?_ NB286_285.out _; (with_reducible repeat (first | refine blk_drewN ?_ _ | refine blk_drew ?_ | refine blk_alloc ?_ _)); exact BK286.out⟩, ⟨zb HB⟩⟩
                    · replace c24 := Bool.eq_false_iff.mpr c24
                      subst c24
                      rw [if_neg (show ¬ (false = true) by decide)] at H
                      obtain ⟨y301, hy301⟩ : ∃ y_ : List Int, y_ = (([] : List Int)) := ⟨_, rfl⟩
                      replace H : (if y301.length + l0_7.length < 17592186044416 then (some (a0_0, a0_1, a0_2, x286003_1, a0_4, a0_5, x3_1, (y301 ++ l0_7))) else (none)) = some (r1, r2, r3, r4, r5, r6, r7, r8) := by first | (rw [hy301]; with_reducible exact H) | (have H2_ := (Option.bind_some _ _).symm.trans H; rw [hy301]; with_reducible exact H2_) | (have H2_ := (Option.bind_some _ _).symm.trans H; with_reducible exact H2_) | with_reducible exact H | (rw [hy301]; exact H) | exact H
                      have Ny301 := Aside0.mk hy301
                      clear hy301
                      by_cases c36 : y301.length + l0_7.length < 17592186044416
                      · rw [if_pos c36] at H
                        have LMc36 := Aside0.mk c36
                        clear c36
                        obtain ⟨y304, hy304⟩ : ∃ y_ : List Int, y_ = (y301 ++ l0_7) := ⟨_, rfl⟩
                        replace H : (some (a0_0, a0_1, a0_2, x286003_1, a0_4, a0_5, x3_1, y304)) = some (r1, r2, r3, r4, r5, r6, r7, r8) := by first | (rw [hy304]; with_reducible exact H) | (have H2_ := (Option.bind_some _ _).symm.trans H; rw [hy304]; with_reducible exact H2_) | (have H2_ := (Option.bind_some _ _).symm.trans H; with_reducible exact H2_) | with_reducible exact H | (rw [hy304]; exact H) | exact H
                        have Ny304 := Aside0.mk hy304
                        clear hy304
                        simp only [Option.some.injEq, Prod.mk.injEq] at H
                        obtain ⟨rfl, rfl, rfl, rfl, rfl, rfl, rfl, rfl⟩ := H
                        obtain ⟨Ao37, co37, eo37⟩ := Kd.R_slice HO_3.out
                        subst eo37
                        have hnb38 := NB285_286.out
                        have hnc38 := NB286_285.out
                        obtain ⟨hcz39_0, hcz39_1, hcz39_2, hcz39_3, hcz39_4, hcz39_5, hcz39_6, hcz39_7, hfz39_0, hfz39_1, hfz39_2, hfz39_3, hfz39_4, hfz39_5, hfz39_6, hfz39_7⟩ := cz8 BK285
                        go_wp2_with (first | ((with_reducible refine gate_dst (N := 78) rfl ?_); refine Kd.R_lit (Kd.int .i64) _ 3 ?hg (N := 78) ?hd (xs := ([] : List Int)) (inner := []) (ok := fun _ => True) (okp := fun _ => True) ?hr ?hp (fun _ hk => hk) trivial (Below.refl _ _) (Nat.le_refl _) (by simp) ?_; (case hd => rfl); (case hg => rfl); (case hr => first | (go_simp; done) | (go_simp; rfl)); (case hp => exact (Reps.none _ _)); intro v302 w40 ho41 hb hg_ hnew_; clear hg_ hnew_; (first | rw [← Ny301.out] at ho41 | (simp only [Int.reduceToNat] at ho41; rw [← Ny301.out] at ho41)); replace HO_3 := am (Kd.R_below (by (with_reducible repeat (first | apply Kd.R_alloc | apply Kd.R_drewN | apply Kd.R_drew)); exact (Kd.R_mono (Kd.R_far (p := ⟨gb285, 6, none⟩) (Kd.R_types HO_3.out BK285.out (by decide)) (fun _ hk => hk.2) (.slice Ao37 x3_1.length co37)) (fun _ h_ => h_.1))) hb); have HO303 := am (Kd.R_lower ho41 (below_size (zb HB))); replace BK285 := am (blk_below (g := gb285) (o := .cells #[.string a0_0, .int .i64 a0_1, .int .i64 a0_2, .int .i64 x286003_1, .int .i64 a0_4, .int .i64 a0_5, .slice Ao37 x3_1.length co37, .slice A0_7 l0_7.length c0_7] 51 (0, 0)) (zp BK285) hb); replace BK286 := am (blk_below (g := gb286) (o := .cells #[.string (⟨#[]⟩ : ByteArray), .int .i64 0, .int .i64 0, .int .i64 0, .int .i64 0, .int .i64 0, .slice none 0 0, .slice none 0 0] 51 (0, 0)) (zp BK286) hb); replace HB := am (below_step (zb HB) hb); clear hb ho41; obtain ⟨hcz42_0, hcz42_1, hcz42_2, hcz42_3, hcz42_4, hcz42_5, hcz42_6, hcz42_7, hfz42_0, hfz42_1, hfz42_2, hfz42_3, hfz42_4, hfz42_5, hfz42_6, hfz42_7⟩ := cz8 BK285) | ((with_reducible refine gate_builtin (b := .append) (xs := #[.tmp 78, .tmp 80]) rfl ?_); at_builtin; refine Kd.R_append_rows (Kd.int .i64) (w0 := w) w.heap.size rfl (.tmp 78) (.tmp 80) 23 3 (.int .i64 0) 8 rfl Tryz.underlying23 info3 rfl (by decide) (by omega) v302 y301 l0_7 _ _ _ (fun _ => True) (fun _ => False) rfl rfl ?aO ?aR (fun _ _ h => h) (fun _ h => h.elim) ?aF ?aB ?aS ?aL ?_; (case aR => repeat (first | exact (Kd.C_below HR0_7.out HB.out) | (with_reducible refine Kd.C_alloc ?_ _) | (with_reducible refine Kd.C_drewN ?_ _) | (with_reducible refine Kd.C_drew ?_))); (case aB => exact (zb HB)); (case aF => exact (fun _ _ => trivial)); (case aO => exact (zr HO303)); (case aS => exact (below_size (zb HB))); (case aL => have := LMc36.out; omega); intro v305 w43 ho hb hg hat; rw [← Ny304.out] at ho; replace HO_3 := am (Kd.R_over' (zr HO_3) (Kd.R_typed (zr HO303)) (by decide) hg); replace BK285 := am (blk_grown (zk BK285) hg (Kd.R_ne HO303.out BK285.out (by decide))); replace BK286 := am (blk_grown (zk BK286) hg (Kd.R_ne HO303.out BK286.out (by decide))); replace HB := am (hb); have HO306 := am (ho); clear HO303; clear ho hb hg hat; obtain ⟨Ao44, co44, eo44⟩ := Kd.R_slice HO306.out; subst eo44; obtain ⟨hcz45_0, hcz45_1, hcz45_2, hcz45_3, hcz45_4, hcz45_5, hcz45_6, hcz45_7, hfz45_0, hfz45_1, hfz45_2, hfz45_3, hfz45_4, hfz45_5, hfz45_6, hfz45_7⟩ := cz8 BK285; obtain ⟨hcz46_0, hcz46_1, hcz46_2, hcz46_3, hcz46_4, hcz46_5, hcz46_6, hcz46_7, hfz46_0, hfz46_1, hfz46_2, hfz46_3, hfz46_4, hfz46_5, hfz46_6, hfz46_7⟩ := cz8 BK286))
                        refine bodyPost_ret (results_cell_row rfl _ _ gb286 51 #[.string a0_0, .int .i64 a0_1, .int .i64 a0_2, .int .i64 x286003_1, .int .i64 a0_4, .int .i64 a0_5, .slice Ao37 x3_1.length co37, .slice Ao44 y304.length co44] (0, 0) _ rfl (zp BK286) Tryz.underlying51 rfl (by kernel_rfl)) rfl ?_
                        exact ⟨_, _, ze, by (with_reducible repeat (first | apply Kd.R_alloc | apply Kd.R_drewN | apply Kd.R_drew)); exact Kd.R_mono (Kd.R_far (p := ⟨gb286, 7, none⟩) (Kd.R_far (p := ⟨gb286, 6, none⟩) (Kd.R_far (p := ⟨gb286, 5, none⟩) (Kd.R_far (p := ⟨gb286, 4, none⟩) (Kd.R_far (p := ⟨gb286, 3, none⟩) (Kd.R_far (p := ⟨gb286, 2, none⟩) (Kd.R_far (p := ⟨gb286, 1, none⟩) (Kd.R_far (p := ⟨gb286, 0, none⟩) (Kd.R_far (p := ⟨gb285, 7, none⟩) (Kd.R_types (Kd.R_types HO_3.out BK285.out (by decide)) BK286.out (by decide)) (fun _ hk => hk.1.2) (.slice Ao44 y304.length co44)) (fun _ hk => hk.2) (.string a0_0)) (fun _ hk => hk.2) (.int .i64 a0_1)) (fun _ hk => hk.2) (.int .i64 a0_2)) (fun _ hk => hk.2) (.int .i64 x286003_1)) (fun _ hk => hk.2) (.int .i64 a0_4)) (fun _ hk => hk.2) (.int .i64 a0_5)) (fun _ hk => hk.2) (.slice Ao37 x3_1.length co37)) (fun _ hk => hk.2) (.slice Ao44 y304.length co44)) (fun _ hk => trivial), by (with_reducible repeat (first | apply Kd.R_alloc | apply Kd.R_drewN | apply Kd.R_drew)); exact Kd.R_mono (Kd.R_far (p := ⟨gb286, 7, none⟩) (Kd.R_far (p := ⟨gb286, 6, none⟩) (Kd.R_far (p := ⟨gb286, 5, none⟩) (Kd.R_far (p := ⟨gb286, 4, none⟩) (Kd.R_far (p := ⟨gb286, 3, none⟩) (Kd.R_far (p := ⟨gb286, 2, none⟩) (Kd.R_far (p := ⟨gb286, 1, none⟩) (Kd.R_far (p := ⟨gb286, 0, none⟩) (Kd.R_far (p := ⟨gb285, 7, none⟩) (Kd.R_types (Kd.R_types HO306.out BK285.out (by decide)) BK286.out (by decide)) (fun _ hk => hk.1.2) (.slice Ao44 y304.length co44)) (fun _ hk => hk.2) (.string a0_0)) (fun _ hk => hk.2) (.int .i64 a0_1)) (fun _ hk => hk.2) (.int .i64 a0_2)) (fun _ hk => hk.2) (.int .i64 x286003_1)) (fun _ hk => hk.2) (.int .i64 a0_4)) (fun _ hk => hk.2) (.int .i64 a0_5)) (fun _ hk => hk.2) (.slice Ao37 x3_1.length co37)) (fun _ hk => hk.2) (.slice Ao44 y304.length co44)) (fun _ hk => trivial), zb HB⟩
                      · rw [if_neg c36] at H
                        exact absurd H (by simp)
            · replace c16 := Bool.eq_false_iff.mpr c16
              subst c16
              rw [if_neg (show ¬ (false = true) by decide)] at H
              obtain ⟨y293, hy293⟩ : ∃ y_ : List Int, y_ = (([] : List Int)) := ⟨_, rfl⟩
              replace H : (if y293.length + l0_7.length < 17592186044416 then (some (a0_0, a0_1, a0_2, x286003_1, a0_4, a0_5, x3_1, (y293 ++ l0_7))) else (none)) = some (r1, r2, r3, r4, r5, r6, r7, r8) := by first | (rw [hy293]; with_reducible exact H) | (have H2_ := (Option.bind_some _ _).symm.trans H; rw [hy293]; with_reducible exact H2_) | (have H2_ := (Option.bind_some _ _).symm.trans H; with_reducible exact H2_) | with_reducible exact H | (rw [hy293]; exact H) | exact H
              have Ny293 := Aside0.mk hy293
              clear hy293
              by_cases c47 : y293.length + l0_7.length < 17592186044416
              · rw [if_pos c47] at H
                have LMc47 := Aside0.mk c47
                clear c47
                obtain ⟨y296, hy296⟩ : ∃ y_ : List Int, y_ = (y293 ++ l0_7) := ⟨_, rfl⟩
                replace H : (some (a0_0, a0_1, a0_2, x286003_1, a0_4, a0_5, x3_1, y296)) = some (r1, r2, r3, r4, r5, r6, r7, r8) := by first | (rw [hy296]; with_reducible exact H) | (have H2_ := (Option.bind_some _ _).symm.trans H; rw [hy296]; with_reducible exact H2_) | (have H2_ := (Option.bind_some _ _).symm.trans H; with_reducible exact H2_) | with_reducible exact H | (rw [hy296]; exact H) | exact H
                have Ny296 := Aside0.mk hy296
                clear hy296
                simp only [Option.some.injEq, Prod.mk.injEq] at H
                obtain ⟨rfl, rfl, rfl, rfl, rfl, rfl, rfl, rfl⟩ := H
                obtain ⟨Ao48, co48, eo48⟩ := Kd.R_slice HO_3.out
                subst eo48
                have hnb49 := NB285_286.out
                have hnc49 := NB286_285.out
                obtain ⟨hcz50_0, hcz50_1, hcz50_2, hcz50_3, hcz50_4, hcz50_5, hcz50_6, hcz50_7, hfz50_0, hfz50_1, hfz50_2, hfz50_3, hfz50_4, hfz50_5, hfz50_6, hfz50_7⟩ := cz8 BK285
                go_wp2_with (first | ((with_reducible refine gate_dst (N := 78) rfl ?_); refine Kd.R_lit (Kd.int .i64) _ 3 ?hg (N := 78) ?hd (xs := ([] : List Int)) (inner := []) (ok := fun _ => True) (okp := fun _ => True) ?hr ?hp (fun _ hk => hk) trivial (Below.refl _ _) (Nat.le_refl _) (by simp) ?_; (case hd => rfl); (case hg => rfl); (case hr => first | (go_simp; done) | (go_simp; rfl)); (case hp => exact (Reps.none _ _)); intro v294 w51 ho52 hb hg_ hnew_; clear hg_ hnew_; (first | rw [← Ny293.out] at ho52 | (simp only [Int.reduceToNat] at ho52; rw [← Ny293.out] at ho52)); replace HO_3 := am (Kd.R_below (by (with_reducible repeat (first | apply Kd.R_alloc | apply Kd.R_drewN | apply Kd.R_drew)); exact (Kd.R_mono (Kd.R_far (p := ⟨gb285, 6, none⟩) (Kd.R_types HO_3.out BK285.out (by decide)) (fun _ hk => hk.2) (.slice Ao48 x3_1.length co48)) (fun _ h_ => h_.1))) hb); have HO295 := am (Kd.R_lower ho52 (below_size (zb HB))); replace BK285 := am (blk_below (g := gb285) (o := .cells #[.string a0_0, .int .i64 a0_1, .int .i64 a0_2, .int .i64 x286003_1, .int .i64 a0_4, .int .i64 a0_5, .slice Ao48 x3_1.length co48, .slice A0_7 l0_7.length c0_7] 51 (0, 0)) (zp BK285) hb); replace BK286 := am (blk_below (g := gb286) (o := .cells #[.string (⟨#[]⟩ : ByteArray), .int .i64 0, .int .i64 0, .int .i64 0, .int .i64 0, .int .i64 0, .slice none 0 0, .slice none 0 0] 51 (0, 0)) (zp BK286) hb); replace HB := am (below_step (zb HB) hb); clear hb ho52; obtain ⟨hcz53_0, hcz53_1, hcz53_2, hcz53_3, hcz53_4, hcz53_5, hcz53_6, hcz53_7, hfz53_0, hfz53_1, hfz53_2, hfz53_3, hfz53_4, hfz53_5, hfz53_6, hfz53_7⟩ := cz8 BK285) | ((with_reducible refine gate_builtin (b := .append) (xs := #[.tmp 78, .tmp 80]) rfl ?_); at_builtin; refine Kd.R_append_rows (Kd.int .i64) (w0 := w) w.heap.size rfl (.tmp 78) (.tmp 80) 23 3 (.int .i64 0) 8 rfl Tryz.underlying23 info3 rfl (by decide) (by omega) v294 y293 l0_7 _ _ _ (fun _ => True) (fun _ => False) rfl rfl ?aO ?aR (fun _ _ h => h) (fun _ h => h.elim) ?aF ?aB ?aS ?aL ?_; (case aR => repeat (first | exact (Kd.C_below HR0_7.out HB.out) | (with_reducible refine Kd.C_alloc ?_ _) | (with_reducible refine Kd.C_drewN ?_ _) | (with_reducible refine Kd.C_drew ?_))); (case aB => exact (zb HB)); (case aF => exact (fun _ _ => trivial)); (case aO => exact (zr HO295)); (case aS => exact (below_size (zb HB))); (case aL => have := LMc47.out; omega); intro v297 w54 ho hb hg hat; rw [← Ny296.out] at ho; replace HO_3 := am (Kd.R_over' (zr HO_3) (Kd.R_typed (zr HO295)) (by decide) hg); replace BK285 := am (blk_grown (zk BK285) hg (Kd.R_ne HO295.out BK285.out (by decide))); replace BK286 := am (blk_grown (zk BK286) hg (Kd.R_ne HO295.out BK286.out (by decide))); replace HB := am (hb); have HO298 := am (ho); clear HO295; clear ho hb hg hat; obtain ⟨Ao55, co55, eo55⟩ := Kd.R_slice HO298.out; subst eo55; obtain ⟨hcz56_0, hcz56_1, hcz56_2, hcz56_3, hcz56_4, hcz56_5, hcz56_6, hcz56_7, hfz56_0, hfz56_1, hfz56_2, hfz56_3, hfz56_4, hfz56_5, hfz56_6, hfz56_7⟩ := cz8 BK285; obtain ⟨hcz57_0, hcz57_1, hcz57_2, hcz57_3, hcz57_4, hcz57_5, hcz57_6, hcz57_7, hfz57_0, hfz57_1, hfz57_2, hfz57_3, hfz57_4, hfz57_5, hfz57_6, hfz57_7⟩ := cz8 BK286))
                refine bodyPost_ret (results_cell_row rfl _ _ gb286 51 #[.string a0_0, .int .i64 a0_1, .int .i64 a0_2, .int .i64 x286003_1, .int .i64 a0_4, .int .i64 a0_5, .slice Ao48 x3_1.length co48, .slice Ao55 y296.length co55] (0, 0) _ rfl (zp BK286) Tryz.underlying51 rfl (by kernel_rfl)) rfl ?_
                exact ⟨_, _, ze, by (with_reducible repeat (first | apply Kd.R_alloc | apply Kd.R_drewN | apply Kd.R_drew)); exact Kd.R_mono (Kd.R_far (p := ⟨gb286, 7, none⟩) (Kd.R_far (p := ⟨gb286, 6, none⟩) (Kd.R_far (p := ⟨gb286, 5, none⟩) (Kd.R_far (p := ⟨gb286, 4, none⟩) (Kd.R_far (p := ⟨gb286, 3, none⟩) (Kd.R_far (p := ⟨gb286, 2, none⟩) (Kd.R_far (p := ⟨gb286, 1, none⟩) (Kd.R_far (p := ⟨gb286, 0, none⟩) (Kd.R_far (p := ⟨gb285, 7, none⟩) (Kd.R_types (Kd.R_types HO_3.out BK285.out (by decide)) BK286.out (by decide)) (fun _ hk => hk.1.2) (.slice Ao55 y296.length co55)) (fun _ hk => hk.2) (.string a0_0)) (fun _ hk => hk.2) (.int .i64 a0_1)) (fun _ hk => hk.2) (.int .i64 a0_2)) (fun _ hk => hk.2) (.int .i64 x286003_1)) (fun _ hk => hk.2) (.int .i64 a0_4)) (fun _ hk => hk.2) (.int .i64 a0_5)) (fun _ hk => hk.2) (.slice Ao48 x3_1.length co48)) (fun _ hk => hk.2) (.slice Ao55 y296.length co55)) (fun _ hk => trivial), by (with_reducible repeat (first | apply Kd.R_alloc | apply Kd.R_drewN | apply Kd.R_drew)); exact Kd.R_mono (Kd.R_far (p := ⟨gb286, 7, none⟩) (Kd.R_far (p := ⟨gb286, 6, none⟩) (Kd.R_far (p := ⟨gb286, 5, none⟩) (Kd.R_far (p := ⟨gb286, 4, none⟩) (Kd.R_far (p := ⟨gb286, 3, none⟩) (Kd.R_far (p := ⟨gb286, 2, none⟩) (Kd.R_far (p := ⟨gb286, 1, none⟩) (Kd.R_far (p := ⟨gb286, 0, none⟩) (Kd.R_far (p := ⟨gb285, 7, none⟩) (Kd.R_types (Kd.R_types HO298.out BK285.out (by decide)) BK286.out (by decide)) (fun _ hk => hk.1.2) (.slice Ao55 y296.length co55)) (fun _ hk => hk.2) (.string a0_0)) (fun _ hk => hk.2) (.int .i64 a0_1)) (fun _ hk => hk.2) (.int .i64 a0_2)) (fun _ hk => hk.2) (.int .i64 x286003_1)) (fun _ hk => hk.2) (.int .i64 a0_4)) (fun _ hk => hk.2) (.int .i64 a0_5)) (fun _ hk => hk.2) (.slice Ao48 x3_1.length co48)) (fun _ hk => hk.2) (.slice Ao55 y296.length co55)) (fun _ hk => trivial), zb HB⟩
              · rw [if_neg c47] at H
                exact absurd H (by simp)
  · rw [if_neg c2] at H
    exact absurd H (by simp)
/-! ### entrepotref04_Less: function 185 -/
def entrepotref04_Less.f (a0_0 : Int) (a0_1 : Int) (a1_0 : Int) (a1_1 : Int) : Option (Bool) := if a0_0 < a1_0 then (some true) else (if a0_0 = a1_0 then (some (decide (a0_1 < a1_1))) else (some false))
set_option maxHeartbeats 8000000 in
set_option maxRecDepth 100000 in
theorem entrepotref04_Less.calls (a0_0 : Int) (a0_1 : Int) (a1_0 : Int) (a1_1 : Int) (r : Bool) (w : World) (h : entrepotref04_Less.f a0_0 a0_1 a1_0 a1_1 = some r) :
  Calls Tryz.prog 185 #[.agg #[.int .i64 a0_0, .int .i64 a0_1], .agg #[.int .i64 a1_0, .int .i64 a1_1]] w fun e w' => e = .returned (.bool r) ∧ Below w.heap.size w w' := by
 have hu38 := Tryz.underlying38
 have HB := Aside0.mk (Below.refl w.heap.size w)
 have H : (if a0_0 < a1_0 then (some true) else (if a0_0 = a1_0 then (some (decide (a0_1 < a1_1))) else (some false))) = some r := h
 clear h
 by_cases c3 : a0_0 < a1_0
 ·rw [if_pos c3] at H
  have c3b0 := decide_eq_true c3
  clear c3
  obtain rfl := Option.some.inj H
  go_enter Tryz.func185, Tryz.ntmps185
  go_wp2_with (first | ((with_reducible refine gate_dst (N := 2) rfl ?_); refine bx (N := 2) (cs := #[.int .i64 a0_0, .int .i64 a0_1]) (t := 38) ?_; intro gb311 hg w4 hbox hb; have BK311 := am (hbox); have GW311 := am ((zz hg (zb HB))); have GE311 := am ((zz hg (zb HB))); replace HB := am (below_step (zb HB) hb); clear hb hbox hg) | ((with_reducible refine gate_dst (N := 3) rfl ?_); refine bx (N := 3) (cs := #[.int .i64 a1_0, .int .i64 a1_1]) (t := 38) ?_; intro gb312 hg w5 hbox hb; have BK312 := am (hbox); have GW312 := am ((zz hg (zb HB))); have GE312 := am ((zz hg (zb HB))); replace HB := am (below_step (zb HB) hb); have NB311_312 := am ((zl hg (zk BK311))); have NB312_311 := am ((zg hg (zk BK311))); replace BK311 := am (blk_below (zk BK311) hb); clear hb hbox hg; have hnb6 := NB311_312.out; have hnc6 := NB312_311.out; obtain ⟨hcz7_0, hcz7_1, hfz7_0, hfz7_1⟩ := cz2 BK311; obtain ⟨hcz8_0, hcz8_1, hfz8_0, hfz8_1⟩ := cz2 BK312))
  go_ret
  exact ⟨ze, zb HB⟩
 ·rw [if_neg c3] at H
  have c3b0 := decide_eq_false c3
  clear c3
  by_cases c9 : a0_0 = a1_0
  ·rw [if_pos c9] at H
   have c9b0 := beq_iff_eq.mpr c9
   have c9b1 := bne_eq_false_iff_eq.mpr c9
   clear c9
   obtain rfl := Option.some.inj H
   go_enter Tryz.func185, Tryz.ntmps185
   go_wp2_with (first | ((with_reducible refine gate_dst (N := 2) rfl ?_); refine bx (N := 2) (cs := #[.int .i64 a0_0, .int .i64 a0_1]) (t := 38) ?_; intro gb311 hg w10 hbox hb; have BK311 := am (hbox); have GW311 := am ((zz hg (zb HB))); have GE311 := am ((zz hg (zb HB))); replace HB := am (below_step (zb HB) hb); clear hb hbox hg) | ((with_reducible refine gate_dst (N := 3) rfl ?_); refine bx (N := 3) (cs := #[.int .i64 a1_0, .int .i64 a1_1]) (t := 38) ?_; intro gb312 hg w11 hbox hb; have BK312 := am (hbox); have GW312 := am ((zz hg (zb HB))); have GE312 := am ((zz hg (zb HB))); replace HB := am (below_step (zb HB) hb); have NB311_312 := am ((zl hg (zk BK311))); have NB312_311 := am ((zg hg (zk BK311))); replace BK311 := am (blk_below (zk BK311) hb); clear hb hbox hg; have hnb12 := NB311_312.out; have hnc12 := NB312_311.out; obtain ⟨hcz13_0, hcz13_1, hfz13_0, hfz13_1⟩ := cz2 BK311; obtain ⟨hcz14_0, hcz14_1, hfz14_0, hfz14_1⟩ := cz2 BK312))
   go_ret
   exact ⟨ze, zb HB⟩
  ·rw [if_neg c9] at H
   have c9b0 := beq_eq_false_iff_ne.mpr c9
   have c9b1 := bne_iff_ne.mpr c9
   obtain rfl := Option.some.inj H
   go_enter Tryz.func185, Tryz.ntmps185
   go_wp2_with (first | ((with_reducible refine gate_dst (N := 2) rfl ?_); refine bx (N := 2) (cs := #[.int .i64 a0_0, .int .i64 a0_1]) (t := 38) ?_; intro gb311 hg w15 hbox hb; have BK311 := am (hbox); have GW311 := am ((zz hg (zb HB))); have GE311 := am ((zz hg (zb HB))); replace HB := am (below_step (zb HB) hb); clear hb hbox hg) | ((with_reducible refine gate_dst (N := 3) rfl ?_); refine bx (N := 3) (cs := #[.int .i64 a1_0, .int .i64 a1_1]) (t := 38) ?_; intro gb312 hg w16 hbox hb; have BK312 := am (hbox); have GW312 := am ((zz hg (zb HB))); have GE312 := am ((zz hg (zb HB))); replace HB := am (below_step (zb HB) hb); have NB311_312 := am ((zl hg (zk BK311))); have NB312_311 := am ((zg hg (zk BK311))); replace BK311 := am (blk_below (zk BK311) hb); clear hb hbox hg; have hnb17 := NB311_312.out; have hnc17 := NB312_311.out; obtain ⟨hcz18_0, hcz18_1, hfz18_0, hfz18_1⟩ := cz2 BK311; obtain ⟨hcz19_0, hcz19_1, hfz19_0, hfz19_1⟩ := cz2 BK312))
   go_ret
   exact ⟨ze, zb HB⟩
end Go.Proofs.YtofklpphalalhaaGreatDoor.PAll
