/- A text of this claim, cut to what the claim uses. Conditions: each theorem's own. -/
import Derived.Test.YtofklpphalalhaaGreatDoorUhJ1
import Derived.Test.YtofklpphalalhaaGreatDoorUhPAllx9
import Derived.Test.YtofklpphalalhaaGreatDoorUhPAllx15
import Derived.Test.YtofklpphalalhaaGreatDoorUhPAllx16
import Derived.Test.YtofklpphalalhaaGreatDoorUhJ4
import Derived.Test.YtofklpphalalhaaGreatDoorUhJ17
-- Written by a program out of the translation, for several roots at once (set All). Not trusted: Lean checks it.
namespace Go.Proofs.YtofklpphalalhaaGreatDoor.PAll
open Go.RowKit Go.Proofs.YtofklpphalalhaaGreatDoorW.PrintWords Go.Proofs.YtofklpphalalhaaGreatDoorW.PrintLast Go.Proofs.YtofklpphalalhaaGreatDoorW.PrintMore
attribute [local go_sem] min2_int min_two
set_option linter.unusedVariables false
set_option linter.unusedSimpArgs false
/-! ### entrepotref15_Told: function 102 -/
def entrepotref15_Told.l0 : Nat → List (S199) → List (S38) → Int → Option (ByteArray × Int × Int × Int × Int × Int × (List (S128)) × List Int × (List (S38)))
 | 0, _, _, _ => none
 | k + 1, x4, x5, x6 => if x6 < (x4.length : Int) then (if 0 ≤ x6 then ((entrepotref04_Put.f k x5 0 (wrap64 (300 + ((rd_T199 x4 x6).f0)))).bind fun t361 => (entrepotref15_Told.l0 k x4 t361 (wrap64 (x6 + 1)))) else (none)) else (some ((⟨#[]⟩ : ByteArray), 0, 0, 0, 0, 0, ([] : List (S128)), ([] : List Int), x5))
def entrepotref15_Told.f (k : Nat) (a0_0 : ByteArray) (a0_1 : Int) (a0_2 : Int) (a0_3 : Int) (a0_4 : Int) (a0_5 : Int) (l0_6 : List (S128)) (l0_7 : List Int) : Option (ByteArray × Int × Int × Int × Int × Int × (List (S128)) × List Int × (List (S38))) := (entrepotref08_Check.f a0_0 a0_1 a0_2 a0_3 a0_4 a0_5 l0_6 l0_7).bind fun t342 => (if (t342.length : Int) = 0 then ((entrepotref08_Norm.f k a0_0 a0_1 a0_2 a0_3 a0_4 a0_5 l0_6 l0_7).bind fun bt345 => (some (bt345.1, bt345.2.1, bt345.2.2.1, bt345.2.2.2.1, bt345.2.2.2.2.1, bt345.2.2.2.2.2.1, bt345.2.2.2.2.2.2.1, bt345.2.2.2.2.2.2.2, ([] : List (S38))))) else (entrepotref15_Told.l0 k t342 (([] : List (S38))) 0))
set_option maxHeartbeats 8000000 in
set_option maxRecDepth 100000 in
theorem entrepotref15_Told.calls (k : Nat) (a0_0 : ByteArray) (a0_1 : Int) (a0_2 : Int) (a0_3 : Int) (a0_4 : Int) (a0_5 : Int) (A0_6 : Option Addr) (c0_6 : Nat) (l0_6 : List (S128)) (A0_7 : Option Addr) (c0_7 : Nat) (l0_7 : List Int) (r1 : ByteArray) (r2 : Int) (r3 : Int) (r4 : Int) (r5 : Int) (r6 : Int) (r7 : List (S128)) (r8 : List Int) (r9 : List (S38)) (w : World) (hr0_6 : Kd.C k128 w A0_6 l0_6.length l0_6) (hc0_6 : l0_6.length ≤ c0_6) (hr0_7 : Kd.C (Kd.int .i64) w A0_7 l0_7.length l0_7) (hc0_7 : l0_7.length ≤ c0_7) (h : entrepotref15_Told.f k a0_0 a0_1 a0_2 a0_3 a0_4 a0_5 l0_6 l0_7 = some (r1, r2, r3, r4, r5, r6, r7, r8, r9)) :
    Calls Tryz.prog 102 #[.agg #[.string a0_0, .int .i64 a0_1, .int .i64 a0_2, .int .i64 a0_3, .int .i64 a0_4, .int .i64 a0_5, .slice A0_6 l0_6.length c0_6, .slice A0_7 l0_7.length c0_7]] w fun e w' => ∃ v6_ v7_ v8_ : Value, e = .returned (.tuple #[.agg #[.string r1, .int .i64 r2, .int .i64 r3, .int .i64 r4, .int .i64 r5, .int .i64 r6, v6_, v7_], v8_]) ∧ Kd.R k128 128 w' w.heap.size (fun _ => True) v6_ r7 ∧ Kd.R (Kd.int .i64) 3 w' w.heap.size (fun _ => True) v7_ r8 ∧ Kd.R k38 38 w' w.heap.size (fun _ => True) v8_ r9 ∧ Below w.heap.size w w' := by
  have hu51 := Tryz.underlying51
  have hu38 := Tryz.underlying38
  have HR0_6 := Aside0.mk hr0_6
  have HC0_6 := Aside0.mk hc0_6
  clear hr0_6 hc0_6
  have HR0_7 := Aside0.mk hr0_7
  have HC0_7 := Aside0.mk hc0_7
  clear hr0_7 hc0_7
  have HB := Aside0.mk (Below.refl w.heap.size w)
  have H : ((entrepotref08_Check.f a0_0 a0_1 a0_2 a0_3 a0_4 a0_5 l0_6 l0_7).bind fun t342 => (if (t342.length : Int) = 0 then ((entrepotref08_Norm.f k a0_0 a0_1 a0_2 a0_3 a0_4 a0_5 l0_6 l0_7).bind fun bt345 => (some (bt345.1, bt345.2.1, bt345.2.2.1, bt345.2.2.2.1, bt345.2.2.2.2.1, bt345.2.2.2.2.2.1, bt345.2.2.2.2.2.2.1, bt345.2.2.2.2.2.2.2, ([] : List (S38))))) else (entrepotref15_Told.l0 k t342 (([] : List (S38))) 0))) = some (r1, r2, r3, r4, r5, r6, r7, r8, r9) := h
  clear h
  replace H := Option.bind_eq_some_iff.mp H
  obtain ⟨t342, A20, H⟩ := H
  have A2 := Aside0.mk A20
  clear A20
  by_cases c3 : (t342.length : Int) = 0
  · rw [if_pos c3] at H
    have c3b0 := beq_iff_eq.mpr c3
    have c3b1 := bne_eq_false_iff_eq.mpr c3
    clear c3
    replace H := Option.bind_eq_some_iff.mp H
    obtain ⟨⟨t345, t346, t347, t348, t349, t350, t351, t354⟩, A40, H⟩ := H
    have A4 := Aside0.mk A40
    clear A40
    simp only [Option.some.injEq, Prod.mk.injEq] at H
    obtain ⟨rfl, rfl, rfl, rfl, rfl, rfl, rfl, rfl, rfl⟩ := H
    go_enter Tryz.func102, Tryz.ntmps102
    go_wp2_with (first | ((with_reducible refine gate_dst (N := 1) rfl ?_); refine bx (N := 1) (cs := #[.string a0_0, .int .i64 a0_1, .int .i64 a0_2, .int .i64 a0_3, .int .i64 a0_4, .int .i64 a0_5, .slice A0_6 l0_6.length c0_6, .slice A0_7 l0_7.length c0_7]) (t := 51) ?_; intro gb340 hg w5 hbox hb; have BK340 := am (hbox); have GW340 := am ((zz hg (zb HB))); have GE340 := am ((zz hg (zb HB))); replace HB := am (below_step (zb HB) hb); clear hb hbox hg) | ((with_reducible refine gate_dst (N := 2) rfl ?_); refine bx (N := 2) (cs := #[.string (⟨#[]⟩ : ByteArray), .int .i64 0, .int .i64 0, .int .i64 0, .int .i64 0, .int .i64 0, .slice none 0 0, .slice none 0 0]) (t := 51) ?_; intro gb341 hg w6 hbox hb; have BK341 := am (hbox); have GW341 := am ((zz hg (zb HB))); have GE341 := am ((zz hg (zb HB))); replace HB := am (below_step (zb HB) hb); have NB340_341 := am ((zl hg (zk BK340))); have NB341_340 := am ((zg hg (zk BK340))); replace BK340 := am (blk_below (zk BK340) hb); clear hb hbox hg; have hnb7 := NB340_341.out; have hnc7 := NB341_340.out; obtain ⟨hcz8_0, hcz8_1, hcz8_2, hcz8_3, hcz8_4, hcz8_5, hcz8_6, hcz8_7, hfz8_0, hfz8_1, hfz8_2, hfz8_3, hfz8_4, hfz8_5, hfz8_6, hfz8_7⟩ := cz8 BK340) | ((with_reducible refine gate_callee (f := 104) rfl ?_); refine gl (some 8) Tryz.func104 #[.agg #[.string a0_0, .int .i64 a0_1, .int .i64 a0_2, .int .i64 a0_3, .int .i64 a0_4, .int .i64 a0_5, .slice A0_6 l0_6.length c0_6, .slice A0_7 l0_7.length c0_7]] rfl ?_; (with_reducible refine (entrepotref08_Check.calls a0_0 a0_1 a0_2 a0_3 a0_4 a0_5 _ _ l0_6 _ _ l0_7 t342 _ ?side1 ?side2 ?side3 ?side4 A2.out).mono ?_); (case side1 => repeat (first | exact (Kd.C_below HR0_6.out HB.out) | (with_reducible refine Kd.C_alloc ?_ _) | (with_reducible refine Kd.C_drewN ?_ _) | (with_reducible refine Kd.C_drew ?_))); (case side2 => exact HC0_6.out); (case side3 => repeat (first | exact (Kd.C_below HR0_7.out HB.out) | (with_reducible refine Kd.C_alloc ?_ _) | (with_reducible refine Kd.C_drewN ?_ _) | (with_reducible refine Kd.C_drew ?_))); (case side4 => exact HC0_7.out); rintro e w9 ⟨v343, rfl, ho0, hb⟩; refine ⟨_, rfl, ?_⟩; have HO344 := am (Kd.R_lower ho0 (below_size (zb HB))); replace BK340 := am (blk_below (zk BK340) hb); replace BK341 := am (blk_below (zk BK341) hb); replace HB := am (below_step (zb HB) hb); (try clear hb); (try clear hb2); (try clear hk); (try clear hi); (try clear ho0); obtain ⟨Ao10, co10, eo10⟩ := Kd.R_slice HO344.out; subst eo10; obtain ⟨hcz11_0, hcz11_1, hcz11_2, hcz11_3, hcz11_4, hcz11_5, hcz11_6, hcz11_7, hfz11_0, hfz11_1, hfz11_2, hfz11_3, hfz11_4, hfz11_5, hfz11_6, hfz11_7⟩ := cz8 BK340) | ((with_reducible refine gate_callee (f := 141) rfl ?_); refine gl (some 13) Tryz.func141 #[.agg #[.string a0_0, .int .i64 a0_1, .int .i64 a0_2, .int .i64 a0_3, .int .i64 a0_4, .int .i64 a0_5, .slice A0_6 l0_6.length c0_6, .slice A0_7 l0_7.length c0_7]] rfl ?_; (with_reducible refine (entrepotref08_Norm.calls k a0_0 a0_1 a0_2 a0_3 a0_4 a0_5 _ _ l0_6 _ _ l0_7 t345 t346 t347 t348 t349 t350 t351 t354 _ ?side1 ?side2 ?side3 ?side4 A4.out).mono ?_); (case side1 => repeat (first | exact (Kd.C_below HR0_6.out HB.out) | (with_reducible refine Kd.C_alloc ?_ _) | (with_reducible refine Kd.C_drewN ?_ _) | (with_reducible refine Kd.C_drew ?_))); (case side2 => exact HC0_6.out); (case side3 => repeat (first | exact (Kd.C_below HR0_7.out HB.out) | (with_reducible refine Kd.C_alloc ?_ _) | (with_reducible refine Kd.C_drewN ?_ _) | (with_reducible refine Kd.C_drew ?_))); (case side4 => exact HC0_7.out); rintro e w12 ⟨v352, v355, rfl, ho0, ho1, hb⟩; refine ⟨_, rfl, ?_⟩; replace HO344 := am (Kd.R_below (zr HO344) hb); have HO353 := am (Kd.R_lower ho0 (below_size (zb HB))); have HO356 := am (Kd.R_lower ho1 (below_size (zb HB))); replace BK340 := am (blk_below (zk BK340) hb); replace BK341 := am (blk_below (zk BK341) hb); replace HB := am (below_step (zb HB) hb); (try clear hb); (try clear hb2); (try clear hk); (try clear hi); (try clear ho0); (try clear ho1); obtain ⟨hcz13_0, hcz13_1, hcz13_2, hcz13_3, hcz13_4, hcz13_5, hcz13_6, hcz13_7, hfz13_0, hfz13_1, hfz13_2, hfz13_3, hfz13_4, hfz13_5, hfz13_6, hfz13_7⟩ := cz8 BK341; obtain ⟨Ao14, co14, eo14⟩ := Kd.R_slice HO353.out; subst eo14; obtain ⟨Ao15, co15, eo15⟩ := Kd.R_slice HO356.out; subst eo15))
    refine bodyPost_ret (results_ct rfl _ _ gb341 51 #[.string t345, .int .i64 t346, .int .i64 t347, .int .i64 t348, .int .i64 t349, .int .i64 t350, .slice Ao14 t351.length co14, .slice Ao15 t354.length co15] (0, 0) _ rfl (zp BK341) Tryz.underlying51 rfl (by kernel_rfl)) rfl ?_
    exact ⟨_, _, _, ze, by (with_reducible repeat (first | apply Kd.R_alloc | apply Kd.R_drewN | apply Kd.R_drew)); exact Kd.R_mono (Kd.R_far (p := ⟨gb341, 7, none⟩) (Kd.R_far (p := ⟨gb341, 6, none⟩) (Kd.R_far (p := ⟨gb341, 5, none⟩) (Kd.R_far (p := ⟨gb341, 4, none⟩) (Kd.R_far (p := ⟨gb341, 3, none⟩) (Kd.R_far (p := ⟨gb341, 2, none⟩) (Kd.R_far (p := ⟨gb341, 1, none⟩) (Kd.R_far (p := ⟨gb341, 0, none⟩) (Kd.R_types HO353.out BK341.out (by decide)) (fun _ hk => hk.2) (.string t345)) (fun _ hk => hk.2) (.int .i64 t346)) (fun _ hk => hk.2) (.int .i64 t347)) (fun _ hk => hk.2) (.int .i64 t348)) (fun _ hk => hk.2) (.int .i64 t349)) (fun _ hk => hk.2) (.int .i64 t350)) (fun _ hk => hk.2) (.slice Ao14 t351.length co14)) (fun _ hk => hk.2) (.slice Ao15 t354.length co15)) (fun _ hk => trivial), by (with_reducible repeat (first | apply Kd.R_alloc | apply Kd.R_drewN | apply Kd.R_drew)); exact Kd.R_mono (Kd.R_far (p := ⟨gb341, 7, none⟩) (Kd.R_far (p := ⟨gb341, 6, none⟩) (Kd.R_far (p := ⟨gb341, 5, none⟩) (Kd.R_far (p := ⟨gb341, 4, none⟩) (Kd.R_far (p := ⟨gb341, 3, none⟩) (Kd.R_far (p := ⟨gb341, 2, none⟩) (Kd.R_far (p := ⟨gb341, 1, none⟩) (Kd.R_far (p := ⟨gb341, 0, none⟩) (Kd.R_types HO356.out BK341.out (by decide)) (fun _ hk => hk.2) (.string t345)) (fun _ hk => hk.2) (.int .i64 t346)) (fun _ hk => hk.2) (.int .i64 t347)) (fun _ hk => hk.2) (.int .i64 t348)) (fun _ hk => hk.2) (.int .i64 t349)) (fun _ hk => hk.2) (.int .i64 t350)) (fun _ hk => hk.2) (.slice Ao14 t351.length co14)) (fun _ hk => hk.2) (.slice Ao15 t354.length co15)) (fun _ hk => trivial), by first | exact Kd.R_nil _ _ _ _ _ | exact Kd.N_nil _ _ _ _ _ | exact Kd.V_nil _ _ _ _ _ | exact Kd.Q_nil _ _ _ _ _ | exact Kd.S_nil _ _ _ _ _, zb HB⟩
  · rw [if_neg c3] at H
    have c3b0 := beq_eq_false_iff_ne.mpr c3
    have c3b1 := bne_iff_ne.mpr c3
    have c3b2 : ¬ (t342 = []) := fun h_ => c3 (by rw [h_]; rfl)
    obtain ⟨y357, hy357⟩ : ∃ y_ : List (S38), y_ = (([] : List (S38))) := ⟨_, rfl⟩
    replace H : (entrepotref15_Told.l0 k t342 y357 0) = some (r1, r2, r3, r4, r5, r6, r7, r8, r9) := by first | (rw [hy357]; with_reducible exact H) | (have H2_ := (Option.bind_some _ _).symm.trans H; rw [hy357]; with_reducible exact H2_) | (have H2_ := (Option.bind_some _ _).symm.trans H; with_reducible exact H2_) | with_reducible exact H | (rw [hy357]; exact H) | exact H
    have Ny357 := Aside0.mk hy357
    clear hy357
    have H' := Aside0.mk H
    clear H
    go_enter Tryz.func102, Tryz.ntmps102
    go_wp2_with (first | ((with_reducible refine gate_dst (N := 1) rfl ?_); refine bx (N := 1) (cs := #[.string a0_0, .int .i64 a0_1, .int .i64 a0_2, .int .i64 a0_3, .int .i64 a0_4, .int .i64 a0_5, .slice A0_6 l0_6.length c0_6, .slice A0_7 l0_7.length c0_7]) (t := 51) ?_; intro gb340 hg w16 hbox hb; have BK340 := am (hbox); have GW340 := am ((zz hg (zb HB))); have GE340 := am ((zz hg (zb HB))); replace HB := am (below_step (zb HB) hb); clear hb hbox hg) | ((with_reducible refine gate_dst (N := 2) rfl ?_); refine bx (N := 2) (cs := #[.string (⟨#[]⟩ : ByteArray), .int .i64 0, .int .i64 0, .int .i64 0, .int .i64 0, .int .i64 0, .slice none 0 0, .slice none 0 0]) (t := 51) ?_; intro gb341 hg w17 hbox hb; have BK341 := am (hbox); have GW341 := am ((zz hg (zb HB))); have GE341 := am ((zz hg (zb HB))); replace HB := am (below_step (zb HB) hb); have NB340_341 := am ((zl hg (zk BK340))); have NB341_340 := am ((zg hg (zk BK340))); replace BK340 := am (blk_below (zk BK340) hb); clear hb hbox hg; have hnb18 := NB340_341.out; have hnc18 := NB341_340.out; obtain ⟨hcz19_0, hcz19_1, hcz19_2, hcz19_3, hcz19_4, hcz19_5, hcz19_6, hcz19_7, hfz19_0, hfz19_1, hfz19_2, hfz19_3, hfz19_4, hfz19_5, hfz19_6, hfz19_7⟩ := cz8 BK340) | ((with_reducible refine gate_callee (f := 104) rfl ?_); refine gl (some 8) Tryz.func104 #[.agg #[.string a0_0, .int .i64 a0_1, .int .i64 a0_2, .int .i64 a0_3, .int .i64 a0_4, .int .i64 a0_5, .slice A0_6 l0_6.length c0_6, .slice A0_7 l0_7.length c0_7]] rfl ?_; (with_reducible refine (entrepotref08_Check.calls a0_0 a0_1 a0_2 a0_3 a0_4 a0_5 _ _ l0_6 _ _ l0_7 t342 _ ?side1 ?side2 ?side3 ?side4 A2.out).mono ?_); (case side1 => repeat (first | exact (Kd.C_below HR0_6.out HB.out) | (with_reducible refine Kd.C_alloc ?_ _) | (with_reducible refine Kd.C_drewN ?_ _) | (with_reducible refine Kd.C_drew ?_))); (case side2 => exact HC0_6.out); (case side3 => repeat (first | exact (Kd.C_below HR0_7.out HB.out) | (with_reducible refine Kd.C_alloc ?_ _) | (with_reducible refine Kd.C_drewN ?_ _) | (with_reducible refine Kd.C_drew ?_))); (case side4 => exact HC0_7.out); rintro e w20 ⟨v343, rfl, ho0, hb⟩; refine ⟨_, rfl, ?_⟩; have HO344 := am (Kd.R_lower ho0 (below_size (zb HB))); replace BK340 := am (blk_below (zk BK340) hb); replace BK341 := am (blk_below (zk BK341) hb); replace HB := am (below_step (zb HB) hb); (try clear hb); (try clear hb2); (try clear hk); (try clear hi); (try clear ho0); obtain ⟨Ao21, co21, eo21⟩ := Kd.R_slice HO344.out; subst eo21) | ((with_reducible refine gate_dst (N := 14) rfl ?_); refine Kd.R_lit k38 _ 38 ?hg (N := 14) ?hd (xs := ([] : List (S38))) (inner := []) (ok := fun _ => True) (okp := fun _ => True) ?hr ?hp (fun _ hk => hk) trivial (Below.refl _ _) (Nat.le_refl _) (by simp) ?_; (case hd => rfl); (case hg => rfl); (case hr => first | (go_simp; done) | (go_simp; rfl)); (case hp => exact (Reps.none _ _)); intro v358 w22 ho23 hb hg_ hnew_; clear hg_ hnew_; (first | rw [← Ny357.out] at ho23 | (simp only [Int.reduceToNat] at ho23; rw [← Ny357.out] at ho23)); replace HO344 := am (Kd.R_below (zr HO344) hb); have HO359 := am (Kd.R_lower ho23 (below_size (zb HB))); replace BK340 := am (blk_below (zk BK340) hb); replace BK341 := am (blk_below (zk BK341) hb); replace HB := am (below_step (zb HB) hb); clear hb ho23))
    go_loopg [5, 6] k (fun kq v5 v6 w' => ∃ (x5_1 : List (S38)) (x6_1 : Int), v6 = .int .i64 x6_1 ∧ Aside0 (entrepotref15_Told.l0 kq t342 x5_1 x6_1 = some (r1, r2, r3, r4, r5, r6, r7, r8, r9)) ∧ Aside0 (kq ≤ k) ∧ Aside0 (Kd.R k199 199 w' w.heap.size (fun _ => True) (.slice Ao21 t342.length co21) t342) ∧ Aside0 (Kd.R k38 38 w' w.heap.size (fun _ => True) v5 x5_1) ∧ Aside0 (w'.heap[gb340]? = some (.cells #[.string a0_0, .int .i64 a0_1, .int .i64 a0_2, .int .i64 a0_3, .int .i64 a0_4, .int .i64 a0_5, (.slice A0_6 l0_6.length c0_6), (.slice A0_7 l0_7.length c0_7)] 51 (0, 0))) ∧ Aside0 (w'.heap[gb341]? = some (.cells #[.string (⟨#[]⟩ : ByteArray), .int .i64 0, .int .i64 0, .int .i64 0, .int .i64 0, .int .i64 0, (.slice none 0 0), (.slice none 0 0)] 51 (0, 0))) ∧ Aside0 (Below w.heap.size w w'))
    case atStart => exact ⟨(y357), (0), zs, H', ⟨Nat.le_refl _⟩, ⟨zr HO344⟩, ⟨zr HO359⟩, ⟨zk BK340⟩, ⟨zk BK341⟩, ⟨zb HB⟩⟩
    case round =>
      clear H'
      try clear c1
      try clear p2
      try clear c3
      try clear c3b0
      try clear c3b1
      try clear c3b2
      try clear c7
      try clear c10
      try clear c14
      try clear c18
      try clear hcz11_0
      try clear hcz11_1
      try clear hcz11_2
      try clear hcz11_3
      try clear hcz11_4
      try clear hcz11_5
      try clear hcz11_6
      try clear hcz11_7
      try clear hcz13_0
      try clear hcz13_1
      try clear hcz13_2
      try clear hcz13_3
      try clear hcz13_4
      try clear hcz13_5
      try clear hcz13_6
      try clear hcz13_7
      try clear hcz19_0
      try clear hcz19_1
      try clear hcz19_2
      try clear hcz19_3
      try clear hcz19_4
      try clear hcz19_5
      try clear hcz19_6
      try clear hcz19_7
      try clear hcz8_0
      try clear hcz8_1
      try clear hcz8_2
      try clear hcz8_3
      try clear hcz8_4
      try clear hcz8_5
      try clear hcz8_6
      try clear hcz8_7
      try clear hfz11_0
      try clear hfz11_1
      try clear hfz11_2
      try clear hfz11_3
      try clear hfz11_4
      try clear hfz11_5
      try clear hfz11_6
      try clear hfz11_7
      try clear hfz13_0
      try clear hfz13_1
      try clear hfz13_2
      try clear hfz13_3
      try clear hfz13_4
      try clear hfz13_5
      try clear hfz13_6
      try clear hfz13_7
      try clear hfz19_0
      try clear hfz19_1
      try clear hfz19_2
      try clear hfz19_3
      try clear hfz19_4
      try clear hfz19_5
      try clear hfz19_6
      try clear hfz19_7
      try clear hfz8_0
      try clear hfz8_1
      try clear hfz8_2
      try clear hfz8_3
      try clear hfz8_4
      try clear hfz8_5
      try clear hfz8_6
      try clear hfz8_7
      obtain ⟨x5_1, x6_1, rfl, HA, HK1, HO_4, HO_5, BK340, BK341, HB⟩ := hrel
      cases gk with
      | zero => exact absurd HA.out (by simp [entrepotref15_Told.l0])
      | succ k1 =>
        have H := HA.out
        clear HA
        simp only [entrepotref15_Told.l0] at H
        by_cases c24 : x6_1 < (t342.length : Int)
        · rw [if_pos c24] at H
          have c24b0 := decide_eq_true c24
          clear c24
          by_cases c25 : 0 ≤ x6_1
          · rw [if_pos c25] at H
            have c25b0 := decide_eq_true c25
            clear c25
            replace H := Option.bind_eq_some_iff.mp H
            obtain ⟨t361, A260, H⟩ := H
            have A26 := Aside0.mk A260
            clear A260
            have H' := Aside0.mk H
            clear H
            have p360 : 0 ≤ (x6_1 : Int) := of_decide_eq_true za
            have q360 : x6_1 < (t342.length : Int) := of_decide_eq_true za
            obtain ⟨ad360, e360, hx360_0, hx360_1⟩ := at_T199 (Kd.R_reads' HO_4.out).2.2 x6_1 p360 q360
            cases e360
            replace p360 := eq_true p360
            replace q360 := eq_true q360
            obtain ⟨Ao27, co27, eo27⟩ := Kd.R_slice HO_5.out
            subst eo27
            go_wp2_with (first | ((with_reducible refine gate_callee (f := 142) rfl ?_); refine gl (some 29) Tryz.func142 #[.slice Ao27 x5_1.length co27, .agg #[.int .i64 0, .int .i64 (wrap64 (300 + ((rd_T199 t342 x6_1).f0)))]] rfl ?_; (with_reducible refine (entrepotref04_Put.calls k1 _ _ x5_1 0 (wrap64 (300 + ((rd_T199 t342 x6_1).f0))) t361 _ ?side1 ?side2 A26.out).mono ?_); (case side1 => repeat (first | exact (Kd.R_reads' HO_5.out).2.2 | (with_reducible refine Kd.C_alloc ?_ _) | (with_reducible refine Kd.C_drewN ?_ _) | (with_reducible refine Kd.C_drew ?_))); (case side2 => exact (Kd.R_reads' HO_5.out).2.1); rintro e w28 ⟨v362, rfl, ho0, hb⟩; refine ⟨_, rfl, ?_⟩; replace HO_4 := am (Kd.R_below (zr HO_4) hb); have HO363 := am (Kd.R_lower (Kd.R_new' ho0 (Kd.R_lt (zr HO_5))) (below_size (zb HB))); replace HO_5 := am (Kd.R_elder' (zr HO_5) (Kd.R_base ho0) hb); replace BK340 := am (blk_below (zk BK340) hb); replace BK341 := am (blk_below (zk BK341) hb); replace HB := am (below_step (zb HB) hb); (try clear hb); (try clear hb2); (try clear hk); (try clear hi); (try clear ho0)))
            go_roundg k1
            case measure => have := HK1.out; omega
            case rel => exact ⟨(t361), (wrap64 (x6_1 + 1)), zs, H', ⟨by have := HK1.out; omega⟩, ⟨zr HO_4⟩, ⟨by (with_reducible repeat (first | apply Kd.R_alloc | apply Kd.R_drewN | apply Kd.R_drew)); exact Kd.R_mono HO363.out (fun _ hk => trivial)⟩, ⟨zk BK340⟩, ⟨zk BK341⟩, ⟨zb HB⟩⟩
          · rw [if_neg c25] at H
            exact absurd H (by simp)
        · rw [if_neg c24] at H
          have c24b0 := decide_eq_false c24
          clear c24
          simp only [Option.some.injEq, Prod.mk.injEq] at H
          obtain ⟨rfl, rfl, rfl, rfl, rfl, rfl, rfl, rfl, rfl⟩ := H
          have hnb29 := NB341_340.out
          have hnc29 := NB340_341.out
          obtain ⟨hcz30_0, hcz30_1, hcz30_2, hcz30_3, hcz30_4, hcz30_5, hcz30_6, hcz30_7, hfz30_0, hfz30_1, hfz30_2, hfz30_3, hfz30_4, hfz30_5, hfz30_6, hfz30_7⟩ := cz8 BK341
          go_wp2
          refine bodyPost_ret (results_ct rfl _ _ gb341 51 #[.string (⟨#[]⟩ : ByteArray), .int .i64 0, .int .i64 0, .int .i64 0, .int .i64 0, .int .i64 0, .slice none 0 0, .slice none 0 0] (0, 0) _ rfl (zp BK341) Tryz.underlying51 rfl (by kernel_rfl)) rfl ?_
          exact ⟨_, _, _, ze, by first | exact Kd.R_nil _ _ _ _ _ | exact Kd.N_nil _ _ _ _ _ | exact Kd.V_nil _ _ _ _ _ | exact Kd.Q_nil _ _ _ _ _ | exact Kd.S_nil _ _ _ _ _, by first | exact Kd.R_nil _ _ _ _ _ | exact Kd.N_nil _ _ _ _ _ | exact Kd.V_nil _ _ _ _ _ | exact Kd.Q_nil _ _ _ _ _ | exact Kd.S_nil _ _ _ _ _, by (with_reducible repeat (first | apply Kd.R_alloc | apply Kd.R_drewN | apply Kd.R_drew)); exact Kd.R_mono (Kd.R_far (p := ⟨gb341, 7, none⟩) (Kd.R_far (p := ⟨gb341, 6, none⟩) (Kd.R_far (p := ⟨gb341, 5, none⟩) (Kd.R_far (p := ⟨gb341, 4, none⟩) (Kd.R_far (p := ⟨gb341, 3, none⟩) (Kd.R_far (p := ⟨gb341, 2, none⟩) (Kd.R_far (p := ⟨gb341, 1, none⟩) (Kd.R_far (p := ⟨gb341, 0, none⟩) (Kd.R_types HO_5.out BK341.out (by decide)) (fun _ hk => hk.2) (.string (⟨#[]⟩ : ByteArray))) (fun _ hk => hk.2) (.int .i64 0)) (fun _ hk => hk.2) (.int .i64 0)) (fun _ hk => hk.2) (.int .i64 0)) (fun _ hk => hk.2) (.int .i64 0)) (fun _ hk => hk.2) (.int .i64 0)) (fun _ hk => hk.2) (.slice none 0 0)) (fun _ hk => hk.2) (.slice none 0 0)) (fun _ hk => trivial), zb HB⟩
/-! ### entrepotref21_Open: function 173 -/
def entrepotref21_Open.f (k : Nat) (a0 : ByteArray) : Option (ByteArray × Int) := if (a0.size : Int) < 4 then (some ((⟨#[]⟩ : ByteArray), 211)) else (if 0 ≤ (wrap64 ((a0.size : Int) - 4)) then (if (wrap64 ((a0.size : Int) - 4)) ≤ (a0.size : Int) then ((entrepotref21_Seal.f k (a0.extract 0 ((wrap64 ((a0.size : Int) - 4)) : Int).toNat)).bind fun t364 => (if t364.toList = a0.toList then (some (a0.extract 0 ((wrap64 ((a0.size : Int) - 4)) : Int).toNat, 0)) else (some ((⟨#[]⟩ : ByteArray), 210)))) else (none)) else (none))
set_option maxHeartbeats 8000000 in
set_option maxRecDepth 100000 in
theorem entrepotref21_Open.calls (k : Nat) (a0 : ByteArray) (r1 : ByteArray) (r2 : Int) (w : World) (h : entrepotref21_Open.f k a0 = some (r1, r2)) :
  Calls Tryz.prog 173 #[.string a0] w fun e w' => e = .returned (.tuple #[.string r1, .int .i64 r2]) ∧ Below w.heap.size w w' := by
 have HB := Aside0.mk (Below.refl w.heap.size w)
 have H : (if (a0.size : Int) < 4 then (some ((⟨#[]⟩ : ByteArray), 211)) else (if 0 ≤ (wrap64 ((a0.size : Int) - 4)) then (if (wrap64 ((a0.size : Int) - 4)) ≤ (a0.size : Int) then ((entrepotref21_Seal.f k (a0.extract 0 ((wrap64 ((a0.size : Int) - 4)) : Int).toNat)).bind fun t364 => (if t364.toList = a0.toList then (some (a0.extract 0 ((wrap64 ((a0.size : Int) - 4)) : Int).toNat, 0)) else (some ((⟨#[]⟩ : ByteArray), 210)))) else (none)) else (none))) = some (r1, r2) := h
 clear h
 by_cases c2 : (a0.size : Int) < 4
 ·rw [if_pos c2] at H
  have c2b0 := decide_eq_true c2
  have c2b1 : decide (a0.size < 4) = true := decide_eq_true (by omega)
  clear c2
  simp only [Option.some.injEq, Prod.mk.injEq] at H
  obtain ⟨rfl, rfl⟩ := H
  go_enter Tryz.func173, Tryz.ntmps173
  go_wp2
  go_ret2
  exact ⟨ze, zb HB⟩
 ·rw [if_neg c2] at H
  have c2b0 := decide_eq_false c2
  have c2b1 : decide (a0.size < 4) = false := decide_eq_false (by omega)
  clear c2
  obtain ⟨ji3, hji3⟩ : ∃ j_ : Int, (wrap64 ((a0.size : Int) - 4)) = j_ := ⟨_, rfl⟩
  replace H : (if 0 ≤ (ji3) then (if (ji3) ≤ (a0.size : Int) then ((entrepotref21_Seal.f k (a0.extract 0 ((ji3) : Int).toNat)).bind fun t364 => (if t364.toList = a0.toList then (some (a0.extract 0 ((ji3) : Int).toNat, 0)) else (some ((⟨#[]⟩ : ByteArray), 210)))) else (none)) else (none)) = some (r1, r2) := by first | (rw [hji3] at H; exact H) | (simp only [hji3] at H ⊢; exact H)
  have hji3w : (IntKind.i64.wrap ((a0.size : Int) - 4)) = ji3 := (i64_w _).trans hji3
  by_cases c4 : 0 ≤ (ji3)
  ·rw [if_pos c4] at H
   have c4b0 := eq_true c4
   have c4b1 := decide_eq_true c4
   clear c4
   by_cases c5 : (ji3) ≤ (a0.size : Int)
   ·rw [if_pos c5] at H
    have c5b0 := eq_true c5
    have c5b1 := decide_eq_true c5
    clear c5
    replace H := Option.bind_eq_some_iff.mp H
    obtain ⟨t364, A60, H⟩ := H
    have A6 := Aside0.mk A60
    clear A60
    by_cases c7 : t364.toList = a0.toList
    ·rw [if_pos c7] at H
     have c7b0 := beq_iff_eq.mpr c7
     have c7b1 := bne_eq_false_iff_eq.mpr c7
     clear c7
     simp only [Option.some.injEq, Prod.mk.injEq] at H
     obtain ⟨rfl, rfl⟩ := H
     go_enter Tryz.func173, Tryz.ntmps173
     go_wp2_with (first | ((with_reducible refine gate_callee (f := 34) rfl ?_); refine goesL_ (some 14) rfl rfl Tryz.func34 (by kernel_rfl) rfl #[.string (a0.extract 0 ((ji3) : Int).toNat)] rfl (by (try simp only [List.map_toArray, List.map_cons, List.map_nil]); first | done | (simp only [hji3]; rfl) | rfl | (simp only [List.length_drop, List.length_take]; rfl)) ?_; (with_reducible refine (entrepotref21_Seal.calls k (a0.extract 0 ((ji3) : Int).toNat) t364 _ A6.out).mono ?_); rintro e w8 ⟨rfl, hb⟩; refine ⟨_, rfl, ?_⟩; replace HB := am (below_step (zb HB) hb); (try clear hb); (try clear hb2); (try clear hk); (try clear hi)))
     go_ret2
     exact ⟨by first | rfl | (simp [errW_none, errW_some] <;> rfl) | (simp only [← hji3]; first | rfl | (simp [errW_none, errW_some] <;> rfl)) | (simp [*, errW_none, errW_some] <;> rfl), zb HB⟩
    ·rw [if_neg c7] at H
     have c7b0 := beq_eq_false_iff_ne.mpr c7
     have c7b1 := bne_iff_ne.mpr c7
     simp only [Option.some.injEq, Prod.mk.injEq] at H
     obtain ⟨rfl, rfl⟩ := H
     go_enter Tryz.func173, Tryz.ntmps173
     go_wp2_with (first | ((with_reducible refine gate_callee (f := 34) rfl ?_); refine goesL_ (some 14) rfl rfl Tryz.func34 (by kernel_rfl) rfl #[.string (a0.extract 0 ((ji3) : Int).toNat)] rfl (by (try simp only [List.map_toArray, List.map_cons, List.map_nil]); first | done | (simp only [hji3]; rfl) | rfl | (simp only [List.length_drop, List.length_take]; rfl)) ?_; (with_reducible refine (entrepotref21_Seal.calls k (a0.extract 0 ((ji3) : Int).toNat) t364 _ A6.out).mono ?_); rintro e w9 ⟨rfl, hb⟩; refine ⟨_, rfl, ?_⟩; replace HB := am (below_step (zb HB) hb); (try clear hb); (try clear hb2); (try clear hk); (try clear hi)))
     go_ret2
     exact ⟨by first | rfl | (simp [errW_none, errW_some] <;> rfl) | (simp only [← hji3]; first | rfl | (simp [errW_none, errW_some] <;> rfl)) | (simp [*, errW_none, errW_some] <;> rfl), zb HB⟩
   ·rw [if_neg c5] at H
    exact absurd H (by simp)
  ·rw [if_neg c4] at H
   exact absurd H (by simp)
/-- A state of type 179 at block g of W; what its slices lead to came in by w0. -/
def IsS179 (w0 W : World) (g : Nat) (f0 : ByteArray) (f1 : Int) (f2 : Int) (f3 : Int) : Prop := W.heap[g]? = some (.cells #[.string f0, .int .i64 f1, .int .i64 f2, .int .i64 f3] 179 (0, 0)) ∧ w0.heap.size ≤ g
theorem IsS179.grown {w0 W : World} {g : Nat} {f0 : ByteArray} {f1 : Int} {f2 : Int} {f3 : Int} {W1 : World} {row : Option Nat} (h : IsS179 w0 W g f0 f1 f2 f3) (hw : W.grownBy W1 row) (hne : some g ≠ row) : IsS179 w0 W1 g f0 f1 f2 f3 := by
 obtain ⟨hb, hg⟩ := h
 exact ⟨blk_grown hb hw hne, hg⟩
theorem IsS179.kept {w0 W : World} {g : Nat} {f0 : ByteArray} {f1 : Int} {f2 : Int} {f3 : Int} {W1 : World} {S : Nat → Prop} (h : IsS179 w0 W g f0 f1 f2 f3) (hk : Kept W W1 S) (hne : ¬ S g) : IsS179 w0 W1 g f0 f1 f2 f3 := by
 obtain ⟨hb, hg⟩ := h
 exact ⟨blk_kept hb hk hne, hg⟩
theorem IsS179.drewN {w0 W : World} {g : Nat} {f0 : ByteArray} {f1 : Int} {f2 : Int} {f3 : Int} (h : IsS179 w0 W g f0 f1 f2 f3) (m : Nat) : IsS179 w0 (W.drewN m) g f0 f1 f2 f3 := h
theorem IsS179.drew {w0 W : World} {g : Nat} {f0 : ByteArray} {f1 : Int} {f2 : Int} {f3 : Int} (h : IsS179 w0 W g f0 f1 f2 f3) : IsS179 w0 W.drew g f0 f1 f2 f3 := h
theorem IsS179.at_ {w0 W : World} {g : Nat} {f0 : ByteArray} {f1 : Int} {f2 : Int} {f3 : Int} {w' : World} {m : Nat} (hq : W.drewN m = w') (h : IsS179 w0 W g f0 f1 f2 f3) : IsS179 w0 w' g f0 f1 f2 f3 := by subst hq; exact IsS179.drewN h m
theorem IsS179.apart {w0 W : World} {g : Nat} {f0 : ByteArray} {f1 : Int} {f2 : Int} {f3 : Int} {α : Type} {d : Kd α} {e : Nat} {base : Nat} {ok : Nat → Prop} {v : Value} {xs : List α} (h : IsS179 w0 W g f0 f1 f2 f3) (ho : d.R e W base ok v xs) (ht : ∀ q, q ∈ e :: d.E → q ≠ 179) : d.R e W base (fun k => ok k ∧ k ≠ g) v xs := by
 obtain ⟨hb, hg⟩ := h
 exact Kd.R_types ho hb ht
theorem IsS179.own_ne {w0 W : World} {g : Nat} {f0 : ByteArray} {f1 : Int} {f2 : Int} {f3 : Int} {α : Type} {d : Kd α} {e : Nat} {base : Nat} {ok : Nat → Prop} {v : Value} {xs : List α} (h : IsS179 w0 W g f0 f1 f2 f3) (ho : d.R e W base ok v xs) (ht : e ≠ 179) : some g ≠ v.ownBlock := by
 obtain ⟨hb, hg⟩ := h
 exact Kd.R_ne ho hb ht
theorem IsS179.ge {w0 W : World} {g : Nat} {f0 : ByteArray} {f1 : Int} {f2 : Int} {f3 : Int} (h : IsS179 w0 W g f0 f1 f2 f3) : w0.heap.size ≤ g := by
 obtain ⟨hb, hg⟩ := h
 exact hg
theorem IsS179.far {w0 W : World} {g : Nat} {f0 : ByteArray} {f1 : Int} {f2 : Int} {f3 : Int} {p : Addr} (h : IsS179 w0 W g f0 f1 f2 f3) (hne : g ≠ p.block) (u : Value) : IsS179 w0 (W.setCell p u) g f0 f1 f2 f3 := by
 obtain ⟨hb, hg⟩ := h
 exact ⟨blk_far hb hne u, hg⟩
theorem cellS179_0 {W : World} {g : Nat} {f0 : ByteArray} {f1 : Int} {f2 : Int} {f3 : Int} (h : W.heap[g]? = some (.cells #[.string f0, .int .i64 f1, .int .i64 f2, .int .i64 f3] 179 (0, 0))) : W.cell? ⟨g, 0, none⟩ = some (.string f0) := (blk_cell h 0).trans rfl
theorem IsS179.set_0 {w0 W : World} {g : Nat} {f0 : ByteArray} {f1 : Int} {f2 : Int} {f3 : Int} (h : IsS179 w0 W g f0 f1 f2 f3) (x : ByteArray) : IsS179 w0 (W.setCell ⟨g, 0, none⟩ (.string x)) g x f1 f2 f3 := by
 obtain ⟨hb, hg⟩ := h
 exact ⟨by simpa using blk_set hb 0 (.string x), hg⟩
theorem cellS179_1 {W : World} {g : Nat} {f0 : ByteArray} {f1 : Int} {f2 : Int} {f3 : Int} (h : W.heap[g]? = some (.cells #[.string f0, .int .i64 f1, .int .i64 f2, .int .i64 f3] 179 (0, 0))) : W.cell? ⟨g, 1, none⟩ = some (.int .i64 f1) := (blk_cell h 1).trans rfl
theorem IsS179.set_1 {w0 W : World} {g : Nat} {f0 : ByteArray} {f1 : Int} {f2 : Int} {f3 : Int} (h : IsS179 w0 W g f0 f1 f2 f3) (x : Int) : IsS179 w0 (W.setCell ⟨g, 1, none⟩ (.int .i64 x)) g f0 x f2 f3 := by
 obtain ⟨hb, hg⟩ := h
 exact ⟨by simpa using blk_set hb 1 (.int .i64 x), hg⟩
theorem cellS179_2 {W : World} {g : Nat} {f0 : ByteArray} {f1 : Int} {f2 : Int} {f3 : Int} (h : W.heap[g]? = some (.cells #[.string f0, .int .i64 f1, .int .i64 f2, .int .i64 f3] 179 (0, 0))) : W.cell? ⟨g, 2, none⟩ = some (.int .i64 f2) := (blk_cell h 2).trans rfl
theorem IsS179.set_2 {w0 W : World} {g : Nat} {f0 : ByteArray} {f1 : Int} {f2 : Int} {f3 : Int} (h : IsS179 w0 W g f0 f1 f2 f3) (x : Int) : IsS179 w0 (W.setCell ⟨g, 2, none⟩ (.int .i64 x)) g f0 f1 x f3 := by
 obtain ⟨hb, hg⟩ := h
 exact ⟨by simpa using blk_set hb 2 (.int .i64 x), hg⟩
theorem cellS179_3 {W : World} {g : Nat} {f0 : ByteArray} {f1 : Int} {f2 : Int} {f3 : Int} (h : W.heap[g]? = some (.cells #[.string f0, .int .i64 f1, .int .i64 f2, .int .i64 f3] 179 (0, 0))) : W.cell? ⟨g, 3, none⟩ = some (.int .i64 f3) := (blk_cell h 3).trans rfl
theorem IsS179.set_3 {w0 W : World} {g : Nat} {f0 : ByteArray} {f1 : Int} {f2 : Int} {f3 : Int} (h : IsS179 w0 W g f0 f1 f2 f3) (x : Int) : IsS179 w0 (W.setCell ⟨g, 3, none⟩ (.int .i64 x)) g f0 f1 f2 x := by
 obtain ⟨hb, hg⟩ := h
 exact ⟨by simpa using blk_set hb 3 (.int .i64 x), hg⟩
theorem IsS179.new (w0 W : World) (f0 : ByteArray) (f1 : Int) (f2 : Int) (f3 : Int) (hB : Below w0.heap.size w0 W) : IsS179 w0 (W.alloc (.cells #[.string f0, .int .i64 f1, .int .i64 f2, .int .i64 f3] 179)) W.heap.size f0 f1 f2 f3 := ⟨by simpa using heap_alloc_new W _, hB.size⟩
/-! ### entrepotref22_reader_fail: function 174 -/
def entrepotref22_reader_fail.f (s0_0 : ByteArray) (s0_1 : Int) (s0_2 : Int) (s0_3 : Int) (a1 : Int) (a2 : Int) : Option (ByteArray × Int × Int × Int) := if s0_3 = 0 then (if a2 = 0 then (some (s0_0, s0_1, s0_2, s0_3)) else (some (s0_0, s0_1, a1, a2))) else (some (s0_0, s0_1, s0_2, s0_3))
set_option maxHeartbeats 8000000 in
set_option maxRecDepth 100000 in
theorem entrepotref22_reader_fail.calls (g : Nat) (s0_0 : ByteArray) (s0_1 : Int) (s0_2 : Int) (s0_3 : Int) (a1 : Int) (a2 : Int) (r1 : ByteArray) (r2 : Int) (r3 : Int) (r4 : Int) (w0 w : World) (hI : IsS179 w0 w g s0_0 s0_1 s0_2 s0_3) (hB : Below w0.heap.size w0 w) (h : entrepotref22_reader_fail.f s0_0 s0_1 s0_2 s0_3 a1 a2 = some (r1, r2, r3, r4)) :
  Calls Tryz.prog 174 #[.pointer (some ⟨g, 0, none⟩), .int .i64 a1, .int .i64 a2] w fun e w' => e = .returned (.tuple #[]) ∧ IsS179 w0 w' g r1 r2 r3 r4 ∧ Below w0.heap.size w0 w' ∧ KeepBut w w' g none := by
 have hu38 := Tryz.underlying38
 have HI0 := Aside0.mk hI
 have HK := Aside0.mk (KeepBut.refl w g none)
 have HL := Aside0.mk hB.size
 clear hI
 have HW0 := Aside0.mk hB.size
 have HB := Aside0.mk hB
 clear hB
 have H : (if s0_3 = 0 then (if a2 = 0 then (some (s0_0, s0_1, s0_2, s0_3)) else (some (s0_0, s0_1, a1, a2))) else (some (s0_0, s0_1, s0_2, s0_3))) = some (r1, r2, r3, r4) := h
 clear h
 by_cases c4 : s0_3 = 0
 ·rw [if_pos c4] at H
  have c4b0 := beq_iff_eq.mpr c4
  have c4b1 := bne_eq_false_iff_eq.mpr c4
  clear c4
  by_cases c5 : a2 = 0
  ·rw [if_pos c5] at H
   have c5b0 := beq_iff_eq.mpr c5
   have c5b1 := bne_eq_false_iff_eq.mpr c5
   clear c5
   simp only [Option.some.injEq, Prod.mk.injEq] at H
   obtain ⟨rfl, rfl, rfl, rfl⟩ := H
   obtain ⟨HGz6, hgz6⟩ := HI0.out
   have hcz6_0 := cellS179_0 HGz6
   have hcz6_1 := cellS179_1 HGz6
   have hcz6_2 := cellS179_2 HGz6
   have hcz6_3 := cellS179_3 HGz6
   have hfz6_0 := blk_frozen HGz6 0
   have hfz6_1 := blk_frozen HGz6 1
   have hfz6_2 := blk_frozen HGz6 2
   have hfz6_3 := blk_frozen HGz6 3
   clear HGz6 hgz6
   go_enter Tryz.func174, Tryz.ntmps174
   go_wp2
   first | go_end0 | ((try simp only [Exit.inBlock, Exit.then]); refine bodyPost_ret (results_none rfl _ _ _) rfl ?_)
   exact ⟨ze, by repeat (first | (with_reducible first | exact HI0.out | apply IsS179.alloc | apply IsS179.drewN | apply IsS179.drew | apply IsS179.set_0 | apply IsS179.set_1 | apply IsS179.set_2 | apply IsS179.set_3) | exact HI0.out), by repeat (first | (with_reducible first | exact HB.out | apply below_alloc | apply pw_below_drewN | apply below_drew1 | refine below_set ?_ (IsS179.ge HI0.out)) | exact HB.out), zkeep HK⟩
  ·rw [if_neg c5] at H
   have c5b0 := beq_eq_false_iff_ne.mpr c5
   have c5b1 := bne_iff_ne.mpr c5
   simp only [Option.some.injEq, Prod.mk.injEq] at H
   obtain ⟨rfl, rfl, rfl, rfl⟩ := H
   obtain ⟨HGz7, hgz7⟩ := HI0.out
   have hcz7_0 := cellS179_0 HGz7
   have hcz7_1 := cellS179_1 HGz7
   have hcz7_2 := cellS179_2 HGz7
   have hcz7_3 := cellS179_3 HGz7
   have hfz7_0 := blk_frozen HGz7 0
   have hfz7_1 := blk_frozen HGz7 1
   have hfz7_2 := blk_frozen HGz7 2
   have hfz7_3 := blk_frozen HGz7 3
   clear HGz7 hgz7
   go_enter Tryz.func174, Tryz.ntmps174
   go_wp2
   first | go_end0 | ((try simp only [Exit.inBlock, Exit.then]); refine bodyPost_ret (results_none rfl _ _ _) rfl ?_)
   exact ⟨ze, by repeat (first | (with_reducible first | exact HI0.out | apply IsS179.alloc | apply IsS179.drewN | apply IsS179.drew | apply IsS179.set_0 | apply IsS179.set_1 | apply IsS179.set_2 | apply IsS179.set_3) | exact HI0.out), by repeat (first | (with_reducible first | exact HB.out | apply below_alloc | apply pw_below_drewN | apply below_drew1 | refine below_set ?_ (IsS179.ge HI0.out)) | exact HB.out), zkeep HK⟩
 ·rw [if_neg c4] at H
  have c4b0 := beq_eq_false_iff_ne.mpr c4
  have c4b1 := bne_iff_ne.mpr c4
  simp only [Option.some.injEq, Prod.mk.injEq] at H
  obtain ⟨rfl, rfl, rfl, rfl⟩ := H
  obtain ⟨HGz8, hgz8⟩ := HI0.out
  have hcz8_0 := cellS179_0 HGz8
  have hcz8_1 := cellS179_1 HGz8
  have hcz8_2 := cellS179_2 HGz8
  have hcz8_3 := cellS179_3 HGz8
  have hfz8_0 := blk_frozen HGz8 0
  have hfz8_1 := blk_frozen HGz8 1
  have hfz8_2 := blk_frozen HGz8 2
  have hfz8_3 := blk_frozen HGz8 3
  clear HGz8 hgz8
  go_enter Tryz.func174, Tryz.ntmps174
  go_wp2
  first | go_end0 | ((try simp only [Exit.inBlock, Exit.then]); refine bodyPost_ret (results_none rfl _ _ _) rfl ?_)
  exact ⟨ze, by repeat (first | (with_reducible first | exact HI0.out | apply IsS179.alloc | apply IsS179.drewN | apply IsS179.drew | apply IsS179.set_0 | apply IsS179.set_1 | apply IsS179.set_2 | apply IsS179.set_3) | exact HI0.out), by repeat (first | (with_reducible first | exact HB.out | apply below_alloc | apply pw_below_drewN | apply below_drew1 | refine below_set ?_ (IsS179.ge HI0.out)) | exact HB.out), zkeep HK⟩
-- NOT PRINTED: function 123 (entrepotref22_opened)
/-! ### entrepotref22_reader_fine: function 127 -/
def entrepotref22_reader_fine.f (s0_0 : ByteArray) (s0_1 : Int) (s0_2 : Int) (s0_3 : Int) : Option (Bool × ByteArray × Int × Int × Int) := some ((s0_3 == 0), s0_0, s0_1, s0_2, s0_3)
set_option maxHeartbeats 8000000 in
set_option maxRecDepth 100000 in
theorem entrepotref22_reader_fine.calls (g : Nat) (s0_0 : ByteArray) (s0_1 : Int) (s0_2 : Int) (s0_3 : Int) (r1 : Bool) (r2 : ByteArray) (r3 : Int) (r4 : Int) (r5 : Int) (w0 w : World) (hI : IsS179 w0 w g s0_0 s0_1 s0_2 s0_3) (hB : Below w0.heap.size w0 w) (h : entrepotref22_reader_fine.f s0_0 s0_1 s0_2 s0_3 = some (r1, r2, r3, r4, r5)) :
  Calls Tryz.prog 127 #[.pointer (some ⟨g, 0, none⟩)] w fun e w' => e = .returned (.bool r1) ∧ IsS179 w0 w' g r2 r3 r4 r5 ∧ Below w0.heap.size w0 w' ∧ KeepBut w w' g none := by
 have HI0 := Aside0.mk hI
 have HK := Aside0.mk (KeepBut.refl w g none)
 have HL := Aside0.mk hB.size
 clear hI
 have HW0 := Aside0.mk hB.size
 have HB := Aside0.mk hB
 clear hB
 have H : (some ((s0_3 == 0), s0_0, s0_1, s0_2, s0_3)) = some (r1, r2, r3, r4, r5) := h
 clear h
 simp only [Option.some.injEq, Prod.mk.injEq] at H
 obtain ⟨rfl, rfl, rfl, rfl, rfl⟩ := H
 obtain ⟨HGz2, hgz2⟩ := HI0.out
 have hcz2_0 := cellS179_0 HGz2
 have hcz2_1 := cellS179_1 HGz2
 have hcz2_2 := cellS179_2 HGz2
 have hcz2_3 := cellS179_3 HGz2
 have hfz2_0 := blk_frozen HGz2 0
 have hfz2_1 := blk_frozen HGz2 1
 have hfz2_2 := blk_frozen HGz2 2
 have hfz2_3 := blk_frozen HGz2 3
 clear HGz2 hgz2
 go_enter Tryz.func127, Tryz.ntmps127
 go_wp2
 go_ret
 exact ⟨ze, by repeat (first | (with_reducible first | exact HI0.out | apply IsS179.alloc | apply IsS179.drewN | apply IsS179.drew | apply IsS179.set_0 | apply IsS179.set_1 | apply IsS179.set_2 | apply IsS179.set_3) | exact HI0.out), by repeat (first | (with_reducible first | exact HB.out | apply below_alloc | apply pw_below_drewN | apply below_drew1 | refine below_set ?_ (IsS179.ge HI0.out)) | exact HB.out), zkeep HK⟩
/-! ### entrepotref21_GetUint: function 177 -/
mutual
def entrepotref21_GetUint.j0 : Nat → ByteArray → Int → Bool → Option (Int × Int × Int)
 | 0, _, _, _ => none
 | k + 1, x0, x1, x18 => if x18 = true then (some (0, 0, 211)) else (entrepotref21_GetUint.l0 k x0 x1 0 1 0)
def entrepotref21_GetUint.l0 : Nat → ByteArray → Int → Int → Int → Int → Option (Int × Int × Int)
 | 0, _, _, _, _, _ => none
 | k + 1, x0, x1, x7, x8, x9 => if x9 < 9 then (if (wrap64 (x1 + x9)) = (x0.size : Int) then (some (0, 0, 211)) else (if 0 ≤ (wrap64 (x1 + x9)) then (if (wrap64 (x1 + x9)) < (x0.size : Int) then (if (wrap64 (bt x0 (wrap64 (x1 + x9)))) ≥ 128 then (entrepotref21_GetUint.l0 k x0 x1 (wrap64 (x7 + (wrap64 ((wrap64 ((wrap64 (bt x0 (wrap64 (x1 + x9)))) - 128)) * x8)))) (wrap64 (x8 * 128)) (wrap64 (x9 + 1))) else (if (wrap64 (bt x0 (wrap64 (x1 + x9)))) = 0 then (if x9 > 0 then (some (0, 0, 212)) else (some (wrap64 (x7 + (wrap64 ((wrap64 (bt x0 (wrap64 (x1 + x9)))) * x8))), wrap64 ((wrap64 (x1 + x9)) + 1), 0))) else (some (wrap64 (x7 + (wrap64 ((wrap64 (bt x0 (wrap64 (x1 + x9)))) * x8))), wrap64 ((wrap64 (x1 + x9)) + 1), 0)))) else (none)) else (none))) else (some (0, 0, 212))
end
def entrepotref21_GetUint.f (k : Nat) (a0 : ByteArray) (a1 : Int) : Option (Int × Int × Int) := if a1 < 0 then (entrepotref21_GetUint.j0 k a0 a1 true) else (entrepotref21_GetUint.j0 k a0 a1 (decide (a1 > (a0.size : Int))))
set_option maxHeartbeats 8000000 in
set_option maxRecDepth 100000 in
theorem entrepotref21_GetUint.calls (k : Nat) (a0 : ByteArray) (a1 : Int) (r1 : Int) (r2 : Int) (r3 : Int) (w : World) (h : entrepotref21_GetUint.f k a0 a1 = some (r1, r2, r3)) :
    Calls Tryz.prog 177 #[.string a0, .int .i64 a1] w fun e w' => e = .returned (.tuple #[.int .i64 r1, .int .i64 r2, .int .i64 r3]) ∧ Drawn0 w w' := by
  have H : (if a1 < 0 then (entrepotref21_GetUint.j0 k a0 a1 true) else (entrepotref21_GetUint.j0 k a0 a1 (decide (a1 > (a0.size : Int))))) = some (r1, r2, r3) := h
  clear h
  have HC3 := Aside0.mk H
  clear H
  go_enter Tryz.func177, Tryz.ntmps177
  go_upto_region 1 with (fail)
  go_cut [18] (fun v18 wc => ∃ (kq : Nat) (x18_2 : Bool), v18 = .bool x18_2 ∧ Aside0 (entrepotref21_GetUint.j0 kq a0 a1 x18_2 = some (r1, r2, r3)) ∧ Aside0 (kq ≤ k) ∧ Drawn0 w wc)
  case first =>
    have H := HC3.out
    clear HC3
    by_cases c4 : a1 < 0
    · rw [if_pos c4] at H
      have c4b0 := decide_eq_true c4
      clear c4
      (first | rw [c4b0] | (simp only [i64_w, i32_w]; rw [c4b0]) | skip)
      have H' := Aside0.mk H
      clear H
      go_wp2
      go_meet
      case rel => exact ⟨_, (true), zs, H', ⟨zo⟩, zd⟩
    · rw [if_neg c4] at H
      have c4b0 := decide_eq_false c4
      clear c4
      (first | rw [c4b0] | (simp only [i64_w, i32_w]; rw [c4b0]) | skip)
      have H' := Aside0.mk H
      clear H
      go_wp2
      go_meet
      case rel => exact ⟨_, (decide (a1 > (a0.size : Int))), zs, H', ⟨zo⟩, zd⟩
  case rest =>
    clear HC3
    try clear c1
    try clear p2
    try clear c4
    try clear c4b0
    obtain ⟨kq, x18_2, rfl, HA, HJ2, ⟨mc2, rfl⟩⟩ := hcut
    cases kq with
    | zero => exact absurd HA.out (by simp [entrepotref21_GetUint.j0])
    | succ kj2 =>
      have H := HA.out
      clear HA
      simp only [entrepotref21_GetUint.j0] at H
      by_cases c5 : x18_2 = true
      · subst c5
        rw [if_pos rfl] at H
        simp only [Option.some.injEq, Prod.mk.injEq] at H
        obtain ⟨rfl, rfl, rfl⟩ := H
        go_wp2
        go_ret3
        exact ⟨zs, zd⟩
      · replace c5 := Bool.eq_false_iff.mpr c5
        subst c5
        rw [if_neg (show ¬ (false = true) by decide)] at H
        have H' := Aside0.mk H
        clear H
        go_wp2
        go_loopg [7, 8, 9] kj2 (fun kq v7 v8 v9 w' => ∃ (x7_2 : Int) (x8_2 : Int) (x9_2 : Int), v7 = .int .i64 x7_2 ∧ v8 = .int .i64 x8_2 ∧ v9 = .int .i64 x9_2 ∧ Aside0 (entrepotref21_GetUint.l0 kq a0 a1 x7_2 x8_2 x9_2 = some (r1, r2, r3)) ∧ Aside0 (kq ≤ kj2) ∧ Drawn0 w w')
        case atStart => exact ⟨(0), (1), (0), zs, zs, zs, H', ⟨Nat.le_refl _⟩, zd⟩
        case round =>
          clear H'
          try clear c1
          try clear c2
          try clear p2
          try clear c4
          try clear c4b0
          try clear c5
          try clear p2
          obtain ⟨x7_2, x8_2, x9_2, rfl, rfl, rfl, HA, HK2, ⟨m2, rfl⟩⟩ := hrel
          cases gk with
          | zero => exact absurd HA.out (by simp [entrepotref21_GetUint.l0])
          | succ k2 =>
            have H := HA.out
            clear HA
            simp only [entrepotref21_GetUint.l0] at H
            by_cases c6 : x9_2 < 9
            · rw [if_pos c6] at H
              have c6b0 := decide_eq_true c6
              clear c6
              by_cases c7 : (wrap64 (a1 + x9_2)) = (a0.size : Int)
              · rw [if_pos c7] at H
                have c7b0 := beq_iff_eq.mpr c7
                have c7b1 := bne_eq_false_iff_eq.mpr c7
                clear c7
                simp only [Option.some.injEq, Prod.mk.injEq] at H
                obtain ⟨rfl, rfl, rfl⟩ := H
                go_wp2
                go_ret3
                exact ⟨zs, zd⟩
              · rw [if_neg c7] at H
                have c7b0 := beq_eq_false_iff_ne.mpr c7
                have c7b1 := bne_iff_ne.mpr c7
                obtain ⟨ji8, hji8⟩ : ∃ j_ : Int, (wrap64 (a1 + x9_2)) = j_ := ⟨_, rfl⟩
                replace H : (if 0 ≤ (ji8) then (if (ji8) < (a0.size : Int) then (if (wrap64 (bt a0 (ji8))) ≥ 128 then (entrepotref21_GetUint.l0 k2 a0 a1 (wrap64 (x7_2 + (wrap64 ((wrap64 ((wrap64 (bt a0 (ji8))) - 128)) * x8_2)))) (wrap64 (x8_2 * 128)) (wrap64 (x9_2 + 1))) else (if (wrap64 (bt a0 (ji8))) = 0 then (if x9_2 > 0 then (some (0, 0, 212)) else (some (wrap64 (x7_2 + (wrap64 ((wrap64 (bt a0 (ji8))) * x8_2))), wrap64 ((ji8) + 1), 0))) else (some (wrap64 (x7_2 + (wrap64 ((wrap64 (bt a0 (ji8))) * x8_2))), wrap64 ((ji8) + 1), 0)))) else (none)) else (none)) = some (r1, r2, r3) := by first | (rw [hji8] at H; exact H) | (simp only [hji8] at H ⊢; exact H)
                (try rw [hji8] at c7b0)
                (try rw [hji8] at c7b1)
                have hji8w : (IntKind.i64.wrap (a1 + x9_2)) = ji8 := (i64_w _).trans hji8
                by_cases c9 : 0 ≤ (ji8)
                · rw [if_pos c9] at H
                  have c9b0 := decide_eq_true c9
                  clear c9
                  by_cases c10 : (ji8) < (a0.size : Int)
                  · rw [if_pos c10] at H
                    have c10b0 := decide_eq_true c10
                    clear c10
                    by_cases c12 : (wrap64 (bt a0 (ji8))) ≥ 128
                    · rw [if_pos c12] at H
                      have c12b0 := decide_eq_true c12
                      clear c12
                      have H' := Aside0.mk H
                      clear H
                      have p11 : 0 ≤ ((ji8) : Int) := of_decide_eq_true za
                      have q11 : (ji8) < (a0.size : Int) := of_decide_eq_true za
                      have hx11 := bt_at a0 (ji8)
                      replace p11 := eq_true p11
                      replace q11 := eq_true q11
                      go_wp2
                      go_roundg k2
                      case measure => have := HJ2.out; have := HK2.out; omega
                      case rel => exact ⟨(wrap64 (x7_2 + (wrap64 ((wrap64 ((wrap64 (bt a0 (ji8))) - 128)) * x8_2)))), (wrap64 (x8_2 * 128)), (wrap64 (x9_2 + 1)), (by first | rfl | (simp; done) | (simp only [← hji8] <;> (first | rfl | simp)) | (simp [*]; done)), zs, zs, H', ⟨by have := HJ2.out; have := HK2.out; omega⟩, zd⟩
                    · rw [if_neg c12] at H
                      have c12b0 := decide_eq_false c12
                      clear c12
                      by_cases c13 : (wrap64 (bt a0 (ji8))) = 0
                      · rw [if_pos c13] at H
                        have c13b0 := beq_iff_eq.mpr c13
                        have c13b1 := bne_eq_false_iff_eq.mpr c13
                        clear c13
                        by_cases c14 : x9_2 > 0
                        · rw [if_pos c14] at H
                          have c14b0 := decide_eq_true c14
                          clear c14
                          simp only [Option.some.injEq, Prod.mk.injEq] at H
                          obtain ⟨rfl, rfl, rfl⟩ := H
                          have p11 : 0 ≤ ((ji8) : Int) := of_decide_eq_true za
                          have q11 : (ji8) < (a0.size : Int) := of_decide_eq_true za
                          have hx11 := bt_at a0 (ji8)
                          replace p11 := eq_true p11
                          replace q11 := eq_true q11
                          go_wp2
                          go_ret3
                          exact ⟨by first | rfl | (simp; done) | (simp only [← hji8] <;> (first | rfl | simp)) | (simp [*]; done), zd⟩
                        · rw [if_neg c14] at H
                          have c14b0 := decide_eq_false c14
                          clear c14
                          simp only [Option.some.injEq, Prod.mk.injEq] at H
                          obtain ⟨rfl, rfl, rfl⟩ := H
                          have p11 : 0 ≤ ((ji8) : Int) := of_decide_eq_true za
                          have q11 : (ji8) < (a0.size : Int) := of_decide_eq_true za
                          have hx11 := bt_at a0 (ji8)
                          replace p11 := eq_true p11
                          replace q11 := eq_true q11
                          go_wp2
                          go_ret3
                          exact ⟨by first | rfl | (simp; done) | (simp only [← hji8] <;> (first | rfl | simp)) | (simp [*]; done), zd⟩
                      · rw [if_neg c13] at H
                        have c13b0 := beq_eq_false_iff_ne.mpr c13
                        have c13b1 := bne_iff_ne.mpr c13
                        simp only [Option.some.injEq, Prod.mk.injEq] at H
                        obtain ⟨rfl, rfl, rfl⟩ := H
                        have p11 : 0 ≤ ((ji8) : Int) := of_decide_eq_true za
                        have q11 : (ji8) < (a0.size : Int) := of_decide_eq_true za
                        have hx11 := bt_at a0 (ji8)
                        replace p11 := eq_true p11
                        replace q11 := eq_true q11
                        go_wp2
                        go_ret3
                        exact ⟨by first | rfl | (simp; done) | (simp only [← hji8] <;> (first | rfl | simp)) | (simp [*]; done), zd⟩
                  · rw [if_neg c10] at H
                    exact absurd H (by simp)
                · rw [if_neg c9] at H
                  exact absurd H (by simp)
            · rw [if_neg c6] at H
              have c6b0 := decide_eq_false c6
              clear c6
              simp only [Option.some.injEq, Prod.mk.injEq] at H
              obtain ⟨rfl, rfl, rfl⟩ := H
              go_wp2
              go_ret3
              exact ⟨zs, zd⟩
/-! ### entrepotref21_GetText: function 175 -/
def entrepotref21_GetText.f (k : Nat) (a0 : ByteArray) (a1 : Int) : Option (ByteArray × Int × Int) := (entrepotref21_GetUint.f k a0 a1).bind fun bt388 => (if bt388.2.2 = 0 then (if bt388.1 > (wrap64 ((a0.size : Int) - bt388.2.1)) then (some ((⟨#[]⟩ : ByteArray), 0, 211)) else (if 0 ≤ bt388.2.1 then (if bt388.2.1 ≤ (wrap64 (bt388.2.1 + bt388.1)) then (if (wrap64 (bt388.2.1 + bt388.1)) ≤ (a0.size : Int) then (some (a0.extract (bt388.2.1 : Int).toNat ((wrap64 (bt388.2.1 + bt388.1)) : Int).toNat, wrap64 (bt388.2.1 + bt388.1), 0)) else (none)) else (none)) else (none))) else (some ((⟨#[]⟩ : ByteArray), 0, bt388.2.2)))
set_option maxHeartbeats 8000000 in
set_option maxRecDepth 100000 in
theorem entrepotref21_GetText.calls (k : Nat) (a0 : ByteArray) (a1 : Int) (r1 : ByteArray) (r2 : Int) (r3 : Int) (w : World) (h : entrepotref21_GetText.f k a0 a1 = some (r1, r2, r3)) :
  Calls Tryz.prog 175 #[.string a0, .int .i64 a1] w fun e w' => e = .returned (.tuple #[.string r1, .int .i64 r2, .int .i64 r3]) ∧ Drawn0 w w' := by
 have H : ((entrepotref21_GetUint.f k a0 a1).bind fun bt388 => (if bt388.2.2 = 0 then (if bt388.1 > (wrap64 ((a0.size : Int) - bt388.2.1)) then (some ((⟨#[]⟩ : ByteArray), 0, 211)) else (if 0 ≤ bt388.2.1 then (if bt388.2.1 ≤ (wrap64 (bt388.2.1 + bt388.1)) then (if (wrap64 (bt388.2.1 + bt388.1)) ≤ (a0.size : Int) then (some (a0.extract (bt388.2.1 : Int).toNat ((wrap64 (bt388.2.1 + bt388.1)) : Int).toNat, wrap64 (bt388.2.1 + bt388.1), 0)) else (none)) else (none)) else (none))) else (some ((⟨#[]⟩ : ByteArray), 0, bt388.2.2)))) = some (r1, r2, r3) := h
 clear h
 replace H := Option.bind_eq_some_iff.mp H
 obtain ⟨⟨t388, t389, t390⟩, A30, H⟩ := H
 have A3 := Aside0.mk A30
 clear A30
 by_cases c4 : t390 = 0
 ·rw [if_pos c4] at H
  have c4b0 := beq_iff_eq.mpr c4
  have c4b1 := bne_eq_false_iff_eq.mpr c4
  clear c4
  by_cases c5 : t388 > (wrap64 ((a0.size : Int) - t389))
  ·rw [if_pos c5] at H
   have c5b0 := decide_eq_true c5
   clear c5
   simp only [Option.some.injEq, Prod.mk.injEq] at H
   obtain ⟨rfl, rfl, rfl⟩ := H
   go_enter Tryz.func175, Tryz.ntmps175
   go_wp2_with (first | ((with_reducible refine gate_callee (f := 177) rfl ?_); refine gl (some 13) Tryz.func177 #[.string a0, .int .i64 a1] rfl ?_; (with_reducible refine (entrepotref21_GetUint.calls k a0 a1 t388 t389 t390 _ A3.out).mono ?_); rintro e w' ⟨rfl, ⟨nd, rfl⟩⟩; refine ⟨_, rfl, ?_⟩))
   go_ret3
   exact ⟨zs, zd⟩
  ·rw [if_neg c5] at H
   have c5b0 := decide_eq_false c5
   clear c5
   by_cases c6 : 0 ≤ t389
   ·rw [if_pos c6] at H
    have c6b0 := eq_true c6
    have c6b1 := decide_eq_true c6
    clear c6
    by_cases c7 : t389 ≤ (wrap64 (t389 + t388))
    ·rw [if_pos c7] at H
     have c7b0 := eq_true c7
     have c7b1 := decide_eq_true c7
     by_cases c8 : (wrap64 (t389 + t388)) ≤ (a0.size : Int)
     ·rw [if_pos c8] at H
      have c8b0 := eq_true c8
      have c8b1 := decide_eq_true c8
      simp only [Option.some.injEq, Prod.mk.injEq] at H
      obtain ⟨rfl, rfl, rfl⟩ := H
      go_enter Tryz.func175, Tryz.ntmps175
      go_wp2_with (first | ((with_reducible refine gate_callee (f := 177) rfl ?_); refine gl (some 13) Tryz.func177 #[.string a0, .int .i64 a1] rfl ?_; (with_reducible refine (entrepotref21_GetUint.calls k a0 a1 t388 t389 t390 _ A3.out).mono ?_); rintro e w' ⟨rfl, ⟨nd, rfl⟩⟩; refine ⟨_, rfl, ?_⟩))
      go_ret3
      exact ⟨zs, zd⟩
     ·rw [if_neg c8] at H
      exact absurd H (by simp)
    ·rw [if_neg c7] at H
     exact absurd H (by simp)
   ·rw [if_neg c6] at H
    exact absurd H (by simp)
 ·rw [if_neg c4] at H
  have c4b0 := beq_eq_false_iff_ne.mpr c4
  have c4b1 := bne_iff_ne.mpr c4
  simp only [Option.some.injEq, Prod.mk.injEq] at H
  obtain ⟨rfl, rfl, rfl⟩ := H
  go_enter Tryz.func175, Tryz.ntmps175
  go_wp2_with (first | ((with_reducible refine gate_callee (f := 177) rfl ?_); refine gl (some 13) Tryz.func177 #[.string a0, .int .i64 a1] rfl ?_; (with_reducible refine (entrepotref21_GetUint.calls k a0 a1 t388 t389 t390 _ A3.out).mono ?_); rintro e w' ⟨rfl, ⟨nd, rfl⟩⟩; refine ⟨_, rfl, ?_⟩))
  go_ret3
  exact ⟨zs, zd⟩
/-! ### entrepotref22_reader_text: function 124 -/
def entrepotref22_reader_text.f (k : Nat) (s0_0 : ByteArray) (s0_1 : Int) (s0_2 : Int) (s0_3 : Int) : Option (ByteArray × ByteArray × Int × Int × Int) := (entrepotref22_reader_fine.f s0_0 s0_1 s0_2 s0_3).bind fun bt391 => (if bt391.1 = true then ((entrepotref21_GetText.f k bt391.2.1 bt391.2.2.1).bind fun bt396 => ((entrepotref22_reader_fail.f bt391.2.1 bt391.2.2.1 bt391.2.2.2.1 bt391.2.2.2.2 bt391.2.2.1 bt396.2.2).bind fun bt399 => (some (bt396.1, bt399.1, bt396.2.1, bt399.2.2.1, bt399.2.2.2)))) else (some ((⟨#[]⟩ : ByteArray), bt391.2.1, bt391.2.2.1, bt391.2.2.2.1, bt391.2.2.2.2)))
set_option maxHeartbeats 8000000 in
set_option maxRecDepth 100000 in
theorem entrepotref22_reader_text.calls (k : Nat) (g : Nat) (s0_0 : ByteArray) (s0_1 : Int) (s0_2 : Int) (s0_3 : Int) (r1 : ByteArray) (r2 : ByteArray) (r3 : Int) (r4 : Int) (r5 : Int) (w0 w : World) (hI : IsS179 w0 w g s0_0 s0_1 s0_2 s0_3) (hB : Below w0.heap.size w0 w) (h : entrepotref22_reader_text.f k s0_0 s0_1 s0_2 s0_3 = some (r1, r2, r3, r4, r5)) :
  Calls Tryz.prog 124 #[.pointer (some ⟨g, 0, none⟩)] w fun e w' => e = .returned (.string r1) ∧ IsS179 w0 w' g r2 r3 r4 r5 ∧ Below w0.heap.size w0 w' ∧ KeepBut w w' g none := by
 have HI0 := Aside0.mk hI
 have HK := Aside0.mk (KeepBut.refl w g none)
 have HL := Aside0.mk hB.size
 clear hI
 have HW0 := Aside0.mk hB.size
 have HB := Aside0.mk hB
 clear hB
 have H : ((entrepotref22_reader_fine.f s0_0 s0_1 s0_2 s0_3).bind fun bt391 => (if bt391.1 = true then ((entrepotref21_GetText.f k bt391.2.1 bt391.2.2.1).bind fun bt396 => ((entrepotref22_reader_fail.f bt391.2.1 bt391.2.2.1 bt391.2.2.2.1 bt391.2.2.2.2 bt391.2.2.1 bt396.2.2).bind fun bt399 => (some (bt396.1, bt399.1, bt396.2.1, bt399.2.2.1, bt399.2.2.2)))) else (some ((⟨#[]⟩ : ByteArray), bt391.2.1, bt391.2.2.1, bt391.2.2.2.1, bt391.2.2.2.2)))) = some (r1, r2, r3, r4, r5) := h
 clear h
 replace H := Option.bind_eq_some_iff.mp H
 obtain ⟨⟨t391, t392, t393, t394, t395⟩, A20, H⟩ := H
 have A2 := Aside0.mk A20
 clear A20
 by_cases c3 : t391 = true
 ·subst c3
  rw [if_pos rfl] at H
  replace H := Option.bind_eq_some_iff.mp H
  obtain ⟨⟨t396, t397, t398⟩, A40, H⟩ := H
  have A4 := Aside0.mk A40
  clear A40
  replace H := Option.bind_eq_some_iff.mp H
  obtain ⟨⟨t399, t400, t401, t402⟩, A50, H⟩ := H
  have A5 := Aside0.mk A50
  clear A50
  simp only [Option.some.injEq, Prod.mk.injEq] at H
  obtain ⟨rfl, rfl, rfl, rfl, rfl⟩ := H
  go_enter Tryz.func124, Tryz.ntmps124
  go_wp2_with (first | (go_at_call 127; (with_reducible refine (entrepotref22_reader_fine.calls g s0_0 s0_1 s0_2 s0_3 true t392 t393 t394 t395 w0 _ ?side1 ?side2 A2.out).mono ?_); (case side1 => repeat (first | (with_reducible first | exact HI0.out | apply IsS179.alloc | apply IsS179.drewN | apply IsS179.drew | apply IsS179.set_0 | apply IsS179.set_1 | apply IsS179.set_2 | apply IsS179.set_3) | exact HI0.out)); (case side2 => repeat (first | (with_reducible first | exact HB.out | apply below_alloc | apply pw_below_drewN | apply below_drew1 | refine below_set ?_ (IsS179.ge HI0.out)) | exact HB.out)); rintro e w6 ⟨rfl, hi, hb, hk⟩; replace HK := am (KeepBut.trans (zkeep HK) hk (.inl rfl)); replace HB := am (hb); replace HI0 := am (hi); (try clear hb); (try clear hb2); (try clear hk); (try clear hi); obtain ⟨HGz7, hgz7⟩ := HI0.out; have hcz7_0 := cellS179_0 HGz7; have hcz7_1 := cellS179_1 HGz7; have hcz7_2 := cellS179_2 HGz7; have hcz7_3 := cellS179_3 HGz7; have hfz7_0 := blk_frozen HGz7 0; have hfz7_1 := blk_frozen HGz7 1; have hfz7_2 := blk_frozen HGz7 2; have hfz7_3 := blk_frozen HGz7 3; clear HGz7 hgz7) | (go_at_call 175; (with_reducible refine (entrepotref21_GetText.calls k t392 t393 t396 t397 t398 _ A4.out).mono ?_); rintro e w' ⟨rfl, ⟨nd, rfl⟩⟩; (try first | exact ⟨rfl, _, World.drewN_drewN _ _ _⟩ | exact ⟨rfl, _, Eq.trans (World.drewN_drewN _ _ _) (congrArg (World.drewN _) (Nat.add_assoc _ _ _))⟩)) | (go_at_call 174; (with_reducible refine (entrepotref22_reader_fail.calls g t392 t393 t394 t395 t393 t398 t399 t400 t401 t402 w0 _ ?side1 ?side2 A5.out).mono ?_); (case side1 => repeat (first | (with_reducible first | exact HI0.out | apply IsS179.alloc | apply IsS179.drewN | apply IsS179.drew | apply IsS179.set_0 | apply IsS179.set_1 | apply IsS179.set_2 | apply IsS179.set_3) | exact HI0.out)); (case side2 => repeat (first | (with_reducible first | exact HB.out | apply below_alloc | apply pw_below_drewN | apply below_drew1 | refine below_set ?_ (IsS179.ge HI0.out)) | exact HB.out)); rintro e w8 ⟨rfl, hi, hb, hk⟩; replace HK := am (KeepBut.trans (zkeep HK) hk (.inl rfl)); replace HB := am (hb); replace HI0 := am (hi); (try clear hb); (try clear hb2); (try clear hk); (try clear hi); obtain ⟨HGz9, hgz9⟩ := HI0.out; have hcz9_0 := cellS179_0 HGz9; have hcz9_1 := cellS179_1 HGz9; have hcz9_2 := cellS179_2 HGz9; have hcz9_3 := cellS179_3 HGz9; have hfz9_0 := blk_frozen HGz9 0; have hfz9_1 := blk_frozen HGz9 1; have hfz9_2 := blk_frozen HGz9 2; have hfz9_3 := blk_frozen HGz9 3; clear HGz9 hgz9))
  repeat (go_quiet (first | (go_at_call 127; (with_reducible refine (entrepotref22_reader_fine.calls g s0_0 s0_1 s0_2 s0_3 true t392 t393 t394 t395 w0 _ ?side1 ?side2 A2.out).mono ?_); (case side1 => repeat (first | (with_reducible first | exact HI0.out | apply IsS179.alloc | apply IsS179.drewN | apply IsS179.drew | apply IsS179.set_0 | apply IsS179.set_1 | apply IsS179.set_2 | apply IsS179.set_3) | exact HI0.out)); (case side2 => repeat (first | (with_reducible first | exact HB.out | apply below_alloc | apply pw_below_drewN | apply below_drew1 | refine below_set ?_ (IsS179.ge HI0.out)) | exact HB.out)); rintro e w6 ⟨rfl, hi, hb, hk⟩; replace HK := am (KeepBut.trans (zkeep HK) hk (.inl rfl)); replace HB := am (hb); replace HI0 := am (hi); (try clear hb); (try clear hb2); (try clear hk); (try clear hi); obtain ⟨HGz7, hgz7⟩ := HI0.out; have hcz7_0 := cellS179_0 HGz7; have hcz7_1 := cellS179_1 HGz7; have hcz7_2 := cellS179_2 HGz7; have hcz7_3 := cellS179_3 HGz7; have hfz7_0 := blk_frozen HGz7 0; have hfz7_1 := blk_frozen HGz7 1; have hfz7_2 := blk_frozen HGz7 2; have hfz7_3 := blk_frozen HGz7 3; clear HGz7 hgz7) | (go_at_call 175; (with_reducible refine (entrepotref21_GetText.calls k t392 t393 t396 t397 t398 _ A4.out).mono ?_); rintro e w' ⟨rfl, ⟨nd, rfl⟩⟩; (try first | exact ⟨rfl, _, World.drewN_drewN _ _ _⟩ | exact ⟨rfl, _, Eq.trans (World.drewN_drewN _ _ _) (congrArg (World.drewN _) (Nat.add_assoc _ _ _))⟩)) | (go_at_call 174; (with_reducible refine (entrepotref22_reader_fail.calls g t392 t393 t394 t395 t393 t398 t399 t400 t401 t402 w0 _ ?side1 ?side2 A5.out).mono ?_); (case side1 => repeat (first | (with_reducible first | exact HI0.out | apply IsS179.alloc | apply IsS179.drewN | apply IsS179.drew | apply IsS179.set_0 | apply IsS179.set_1 | apply IsS179.set_2 | apply IsS179.set_3) | exact HI0.out)); (case side2 => repeat (first | (with_reducible first | exact HB.out | apply below_alloc | apply pw_below_drewN | apply below_drew1 | refine below_set ?_ (IsS179.ge HI0.out)) | exact HB.out)); rintro e w8 ⟨rfl, hi, hb, hk⟩; replace HK := am (KeepBut.trans (zkeep HK) hk (.inl rfl)); replace HB := am (hb); replace HI0 := am (hi); (try clear hb); (try clear hb2); (try clear hk); (try clear hi); obtain ⟨HGz9, hgz9⟩ := HI0.out; have hcz9_0 := cellS179_0 HGz9; have hcz9_1 := cellS179_1 HGz9; have hcz9_2 := cellS179_2 HGz9; have hcz9_3 := cellS179_3 HGz9; have hfz9_0 := blk_frozen HGz9 0; have hfz9_1 := blk_frozen HGz9 1; have hfz9_2 := blk_frozen HGz9 2; have hfz9_3 := blk_frozen HGz9 3; clear HGz9 hgz9)); try go_wp2_with (first | (go_at_call 127; (with_reducible refine (entrepotref22_reader_fine.calls g s0_0 s0_1 s0_2 s0_3 true t392 t393 t394 t395 w0 _ ?side1 ?side2 A2.out).mono ?_); (case side1 => repeat (first | (with_reducible first | exact HI0.out | apply IsS179.alloc | apply IsS179.drewN | apply IsS179.drew | apply IsS179.set_0 | apply IsS179.set_1 | apply IsS179.set_2 | apply IsS179.set_3) | exact HI0.out)); (case side2 => repeat (first | (with_reducible first | exact HB.out | apply below_alloc | apply pw_below_drewN | apply below_drew1 | refine below_set ?_ (IsS179.ge HI0.out)) | exact HB.out)); rintro e w6 ⟨rfl, hi, hb, hk⟩; replace HK := am (KeepBut.trans (zkeep HK) hk (.inl rfl)); replace HB := am (hb); replace HI0 := am (hi); (try clear hb); (try clear hb2); (try clear hk); (try clear hi); obtain ⟨HGz7, hgz7⟩ := HI0.out; have hcz7_0 := cellS179_0 HGz7; have hcz7_1 := cellS179_1 HGz7; have hcz7_2 := cellS179_2 HGz7; have hcz7_3 := cellS179_3 HGz7; have hfz7_0 := blk_frozen HGz7 0; have hfz7_1 := blk_frozen HGz7 1; have hfz7_2 := blk_frozen HGz7 2; have hfz7_3 := blk_frozen HGz7 3; clear HGz7 hgz7) | (go_at_call 175; (with_reducible refine (entrepotref21_GetText.calls k t392 t393 t396 t397 t398 _ A4.out).mono ?_); rintro e w' ⟨rfl, ⟨nd, rfl⟩⟩; (try first | exact ⟨rfl, _, World.drewN_drewN _ _ _⟩ | exact ⟨rfl, _, Eq.trans (World.drewN_drewN _ _ _) (congrArg (World.drewN _) (Nat.add_assoc _ _ _))⟩)) | (go_at_call 174; (with_reducible refine (entrepotref22_reader_fail.calls g t392 t393 t394 t395 t393 t398 t399 t400 t401 t402 w0 _ ?side1 ?side2 A5.out).mono ?_); (case side1 => repeat (first | (with_reducible first | exact HI0.out | apply IsS179.alloc | apply IsS179.drewN | apply IsS179.drew | apply IsS179.set_0 | apply IsS179.set_1 | apply IsS179.set_2 | apply IsS179.set_3) | exact HI0.out)); (case side2 => repeat (first | (with_reducible first | exact HB.out | apply below_alloc | apply pw_below_drewN | apply below_drew1 | refine below_set ?_ (IsS179.ge HI0.out)) | exact HB.out)); rintro e w8 ⟨rfl, hi, hb, hk⟩; replace HK := am (KeepBut.trans (zkeep HK) hk (.inl rfl)); replace HB := am (hb); replace HI0 := am (hi); (try clear hb); (try clear hb2); (try clear hk); (try clear hi); obtain ⟨HGz9, hgz9⟩ := HI0.out; have hcz9_0 := cellS179_0 HGz9; have hcz9_1 := cellS179_1 HGz9; have hcz9_2 := cellS179_2 HGz9; have hcz9_3 := cellS179_3 HGz9; have hfz9_0 := blk_frozen HGz9 0; have hfz9_1 := blk_frozen HGz9 1; have hfz9_2 := blk_frozen HGz9 2; have hfz9_3 := blk_frozen HGz9 3; clear HGz9 hgz9)))
  go_ret
  exact ⟨ze, by repeat (first | (with_reducible first | exact HI0.out | apply IsS179.alloc | apply IsS179.drewN | apply IsS179.drew | apply IsS179.set_0 | apply IsS179.set_1 | apply IsS179.set_2 | apply IsS179.set_3) | exact HI0.out), by repeat (first | (with_reducible first | exact HB.out | apply below_alloc | apply pw_below_drewN | apply below_drew1 | refine below_set ?_ (IsS179.ge HI0.out)) | exact HB.out), zkeep HK⟩
 ·replace c3 := Bool.eq_false_iff.mpr c3
  subst c3
  rw [if_neg (show ¬ (false = true) by decide)] at H
  simp only [Option.some.injEq, Prod.mk.injEq] at H
  obtain ⟨rfl, rfl, rfl, rfl, rfl⟩ := H
  go_enter Tryz.func124, Tryz.ntmps124
  go_wp2_with (first | (go_at_call 127; (with_reducible refine (entrepotref22_reader_fine.calls g s0_0 s0_1 s0_2 s0_3 false t392 t393 t394 t395 w0 _ ?side1 ?side2 A2.out).mono ?_); (case side1 => repeat (first | (with_reducible first | exact HI0.out | apply IsS179.alloc | apply IsS179.drewN | apply IsS179.drew | apply IsS179.set_0 | apply IsS179.set_1 | apply IsS179.set_2 | apply IsS179.set_3) | exact HI0.out)); (case side2 => repeat (first | (with_reducible first | exact HB.out | apply below_alloc | apply pw_below_drewN | apply below_drew1 | refine below_set ?_ (IsS179.ge HI0.out)) | exact HB.out)); rintro e w10 ⟨rfl, hi, hb, hk⟩; replace HK := am (KeepBut.trans (zkeep HK) hk (.inl rfl)); replace HB := am (hb); replace HI0 := am (hi); (try clear hb); (try clear hb2); (try clear hk); (try clear hi)))
  repeat (go_quiet (first | (go_at_call 127; (with_reducible refine (entrepotref22_reader_fine.calls g s0_0 s0_1 s0_2 s0_3 false t392 t393 t394 t395 w0 _ ?side1 ?side2 A2.out).mono ?_); (case side1 => repeat (first | (with_reducible first | exact HI0.out | apply IsS179.alloc | apply IsS179.drewN | apply IsS179.drew | apply IsS179.set_0 | apply IsS179.set_1 | apply IsS179.set_2 | apply IsS179.set_3) | exact HI0.out)); (case side2 => repeat (first | (with_reducible first | exact HB.out | apply below_alloc | apply pw_below_drewN | apply below_drew1 | refine below_set ?_ (IsS179.ge HI0.out)) | exact HB.out)); rintro e w10 ⟨rfl, hi, hb, hk⟩; replace HK := am (KeepBut.trans (zkeep HK) hk (.inl rfl)); replace HB := am (hb); replace HI0 := am (hi); (try clear hb); (try clear hb2); (try clear hk); (try clear hi))); try go_wp2_with (first | (go_at_call 127; (with_reducible refine (entrepotref22_reader_fine.calls g s0_0 s0_1 s0_2 s0_3 false t392 t393 t394 t395 w0 _ ?side1 ?side2 A2.out).mono ?_); (case side1 => repeat (first | (with_reducible first | exact HI0.out | apply IsS179.alloc | apply IsS179.drewN | apply IsS179.drew | apply IsS179.set_0 | apply IsS179.set_1 | apply IsS179.set_2 | apply IsS179.set_3) | exact HI0.out)); (case side2 => repeat (first | (with_reducible first | exact HB.out | apply below_alloc | apply pw_below_drewN | apply below_drew1 | refine below_set ?_ (IsS179.ge HI0.out)) | exact HB.out)); rintro e w10 ⟨rfl, hi, hb, hk⟩; replace HK := am (KeepBut.trans (zkeep HK) hk (.inl rfl)); replace HB := am (hb); replace HI0 := am (hi); (try clear hb); (try clear hb2); (try clear hk); (try clear hi))))
  go_ret
  exact ⟨ze, by repeat (first | (with_reducible first | exact HI0.out | apply IsS179.alloc | apply IsS179.drewN | apply IsS179.drew | apply IsS179.set_0 | apply IsS179.set_1 | apply IsS179.set_2 | apply IsS179.set_3) | exact HI0.out), by repeat (first | (with_reducible first | exact HB.out | apply below_alloc | apply pw_below_drewN | apply below_drew1 | refine below_set ?_ (IsS179.ge HI0.out)) | exact HB.out), zkeep HK⟩
end Go.Proofs.YtofklpphalalhaaGreatDoor.PAll
