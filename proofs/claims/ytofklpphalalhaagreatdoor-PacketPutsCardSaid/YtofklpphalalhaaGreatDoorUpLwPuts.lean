/- packet's law PacketPuts, walked by hand. Conditions: the sums' table lies as listed. -/
import Derived.Test.YtofklpphalalhaaGreatDoorUpLwA
import Derived.Test.YtofklpphalalhaaGreatDoorUpJ27
import Derived.Test.YtofklpphalalhaaGreatDoorUpJ31
namespace Go.Proofs.YtofklpphalalhaaGreatDoor
set_option linter.unusedVariables false
set_option linter.unusedSimpArgs false
open Go.RowKit Go.Proofs.YtofklpphalalhaaGreatDoor.PAll Go.Proofs.YtofklpphalalhaaGreatDoorW.PrintWords Go.Proofs.YtofklpphalalhaaGreatDoorW.PrintLast Go.Proofs.YtofklpphalalhaaGreatDoorW.PrintMore
theorem cb3 {w w1 : World} {a : Addr} {v : Value} (hb : Below w.heap.size w w1) (h : w.cell? a = some v) : w1.cell? a = some v := by
  have hl : a.block < w.heap.size := by
    rcases Nat.lt_or_ge a.block w.heap.size with h' | h'
    · exact h'
    · unfold World.cell? at h; rw [Array.getElem?_eq_none h'] at h; cases h
  rw [hb.cell (p := a) hl]; exact h
set_option maxRecDepth 100000 in
set_option maxHeartbeats 32000000 in
theorem puts_walk (x : Cn.In) (A6 A7 : Option Addr) (c6 c7 : Nat) (rs : List (List Int)) (A : Option Addr) (c : Nat) (w : World) (HT : Tab w) (ho : ∀ d ∈ x.nodes, NodeOk d) (hc7 : x.mx.length ≤ c7) (hcc : rs.length ≤ c) (hC6 : Kd.C k71 w A6 x.nodes.length x.nodes) (hC7 : Kd.C (Kd.int .i64) w A7 x.mx.length x.mx) (hC : Kd.C kRow w A rs.length rs) :
    Calls Tryz.prog 5 #[inV x (.slice A6 x.nodes.length c6) (.slice A7 x.mx.length c7), .agg #[.slice A rs.length c]] w fun e w' => e = .returned (.bool true) ∧ Below w.heap.size w w' := by
  obtain ⟨V, hV⟩ : ∃ V, V = (w.alloc (inB x (.slice A6 x.nodes.length c6) (.slice A7 x.mx.length c7))).alloc (.cells #[.slice A rs.length c] 28) := ⟨_, rfl⟩
  have hb := below_two w (inB x (.slice A6 x.nodes.length c6) (.slice A7 x.mx.length c7)) (.cells #[.slice A rs.length c] 28)
  have htb := two_blocks w (inB x (.slice A6 x.nodes.length c6) (.slice A7 x.mx.length c7)) (.cells #[.slice A rs.length c] 28)
  rw [← hV] at hb htb
  have hsV : V.heap.size = w.heap.size + 2 := by rw [hV]; simp
  have hT := HT.below hb
  obtain ⟨sm, hsm, hS⟩ := small_walk rs
  obtain ⟨bw, hbw⟩ : ∃ b, wl x = b := ⟨_, rfl⟩
  have hw := well22_walk x A6 A7 c6 c7 V ho hc7 (Kd.C_below hC6 hb) (Kd.C_below hC7 hb)
  rw [hbw, hV] at hw
  have HW := Aside0.mk hw
  have HV := Aside0.mk hV
  have HB := Aside0.mk hb
  have HC6 := Aside0.mk (Kd.C_below hC6 hb)
  have HC7 := Aside0.mk (Kd.C_below hC7 hb)
  have HC := Aside0.mk (Kd.C_below hC hb)
  have HTB := Aside0.mk htb
  have HSV := Aside0.mk hsV
  have HTV := Aside0.mk hT
  have HS := Aside0.mk hS
  have HSM := Aside0.mk hsm
  have HBW := Aside0.mk hbw
  clear hw hV hb htb hsV hT hS hC6 hC7 hC HT hsm hbw
  cases bw with
  | false =>
    go_enter Tryz.func5, Tryz.ntmps5
    go_wp2_with fail
    refine HW.out.mono ?_
    rintro e W1 ⟨rfl, b1⟩
    rw [← HV.out] at b1
    have HSH := Aside0.mk (shown22_walk W1 (HTV.out.below b1))
    have HB1 := Aside0.mk (HB.out.trans (b1.mono HB.out.size))
    clear b1 HW
    go_wp2_with fail
    refine HSH.out.mono ?_
    rintro e W2 ⟨rfl, b2⟩
    have HB2 := Aside0.mk (HB1.out.trans (b2.mono HB1.out.size))
    clear b2 HSH
    go_wp2_with fail
    go_ret
    exact ⟨rfl, HB2.out⟩
  | true =>
    have HWL := Aside0.mk (wl_tells x ho HBW.out)
    cases sm with
    | false =>
      go_enter Tryz.func5, Tryz.ntmps5
      go_wp2_with fail
      refine HW.out.mono ?_
      rintro e W1 ⟨rfl, b1⟩
      rw [← HV.out] at b1
      have p1 : W1.cell? ⟨w.heap.size + 1, 0, none⟩ = some (.slice A rs.length c) := by
        rw [Lib.cell_of_heap ((b1.block _ (by rw [HSV.out]; omega)).trans HTB.out.2)]; rfl
      have HS1 := Aside0.mk (HS.out A c W1 (Kd.C_below HC.out b1) hcc)
      have HT1 := Aside0.mk (HTV.out.below b1)
      have HB1 := Aside0.mk (HB.out.trans (b1.mono HB.out.size))
      clear b1 HW
      go_wp2_with fail
      refine HS1.out.mono ?_
      rintro e W2 ⟨rfl, b2⟩
      have HSH := Aside0.mk (shown22_walk W2 (HT1.out.below b2))
      have HB2 := Aside0.mk (HB1.out.trans (b2.mono HB1.out.size))
      clear b2 HS1 p1
      go_wp2_with fail
      refine HSH.out.mono ?_
      rintro e W3 ⟨rfl, b3⟩
      have HB3 := Aside0.mk (HB2.out.trans (b3.mono HB2.out.size))
      clear b3 HSH
      go_wp2_with fail
      go_ret
      exact ⟨rfl, HB3.out⟩
    | true =>
      have HOK := Aside0.mk (HSM.out rfl)
      go_enter Tryz.func5, Tryz.ntmps5
      go_wp2_with fail
      refine HW.out.mono ?_
      rintro e W1 ⟨rfl, b1⟩
      rw [← HV.out] at b1
      have p1 : W1.cell? ⟨w.heap.size + 1, 0, none⟩ = some (.slice A rs.length c) := by
        rw [Lib.cell_of_heap ((b1.block _ (by rw [HSV.out]; omega)).trans HTB.out.2)]; rfl
      have HS1 := Aside0.mk (HS.out A c W1 (Kd.C_below HC.out b1) hcc)
      have HT1 := Aside0.mk (HTV.out.below b1)
      have HB1 := Aside0.mk b1
      clear b1 HW
      go_wp2_with fail
      refine HS1.out.mono ?_
      rintro e W2 ⟨rfl, b2⟩
      have HSH := Aside0.mk (shown22_walk W2 (HT1.out.below b2))
      have HT2 := Aside0.mk (HT1.out.below b2)
      have HB2 := Aside0.mk (HB1.out.trans (b2.mono HB1.out.size))
      clear b2 HS1 p1 HT1 HB1
      go_wp2_with fail
      refine HSH.out.mono ?_
      rintro e W3 ⟨rfl, b3⟩
      have hT3 := HT2.out.below b3
      have hb3 := HB2.out.trans (b3.mono HB2.out.size)
      clear HSH HT2 HB2 b3
      have q0 := (hb3.block _ (by rw [HSV.out]; omega)).trans HTB.out.1
      have q1 := (hb3.block _ (by rw [HSV.out]; omega)).trans HTB.out.2
      have HQ0 := Aside0.mk q0
      have HQ1 := Aside0.mk q1
      have HC63 := Aside0.mk (Kd.C_below HC6.out hb3)
      have HC73 := Aside0.mk (Kd.C_below HC7.out hb3)
      have HC3 := Aside0.mk (Kd.C_below HC.out hb3)
      have HB3 := Aside0.mk (HB.out.trans (hb3.mono HB.out.size))
      have HT3 := Aside0.mk hT3
      obtain ⟨x0, x1, x2, x3, x4, x5, x6, x7⟩ := box_cells q0
      clear q0 q1 HV HB HC6 HC7 HC HTB HSV HTV HS HSM HBW hb3 hT3
      obtain ⟨sx, hsx⟩ : ∃ s, Evs.S (Pk.shut (Pp.inst x)) = s := ⟨_, rfl⟩
      obtain ⟨sp, hsp⟩ : ∃ s, Evs.S (Pk.shut (Pp.plan rs)) = s := ⟨_, rfl⟩
      have HF : Aside0 (W3.cell? ⟨w.heap.size, 0, none⟩ = some (.string x.nm) ∧ W3.cell? ⟨w.heap.size, 1, none⟩ = some (.int .i64 x.kind) ∧ W3.cell? ⟨w.heap.size, 2, none⟩ = some (.int .i64 x.metric) ∧ W3.cell? ⟨w.heap.size, 3, none⟩ = some (.int .i64 x.scale) ∧ W3.cell? ⟨w.heap.size, 4, none⟩ = some (.int .i64 x.cap) ∧ W3.cell? ⟨w.heap.size, 5, none⟩ = some (.int .i64 x.fleet) ∧ W3.cell? ⟨w.heap.size, 6, none⟩ = some (.slice A6 x.nodes.length c6) ∧ W3.cell? ⟨w.heap.size, 7, none⟩ = some (.slice A7 x.mx.length c7) ∧ W3.cell? ⟨w.heap.size + 1, 0, none⟩ = some (.slice A rs.length c)) := ⟨⟨x0, x1, x2, x3, x4, x5, x6, x7, by rw [Lib.cell_of_heap HQ1.out]; rfl⟩⟩
      have HPUT : Aside0 (∀ U, Below W3.heap.size W3 U → Calls Tryz.prog 27 #[inV x (.slice A6 x.nodes.length c6) (.slice A7 x.mx.length c7)] U fun e w' => e = .returned (.string sx) ∧ Below U.heap.size U w') := ⟨fun U hU => by
        have h := put_walk x A6 A7 c6 c7 U (HT3.out.below hU) (by have := HWL.out.ln; omega) (by have := HWL.out.l6; omega) (by have := HWL.out.l7; omega) (Kd.C_below HC63.out hU) (Kd.C_below HC73.out hU)
        rw [hsx] at h
        exact h⟩
      have HITS : Aside0 (∀ U, Below W3.heap.size W3 U → Calls Tryz.prog 29 #[inV x (.slice A6 x.nodes.length c6) (.slice A7 x.mx.length c7)] U fun e w' => ∃ u6, e = .returned (.agg #[.string x.nm, .int .i64 x.kind, .int .i64 x.metric, .int .i64 x.scale, .int .i64 x.cap, .int .i64 x.fleet, u6, .slice A7 x.mx.length c7]) ∧ Kd.R k128 128 w' U.heap.size (fun _ => True) u6 (x.nodes.map rn) ∧ Below U.heap.size U w') := ⟨fun U hU => its22_walk x A6 A7 c6 c7 U (by have := HWL.out.l6; omega) (Kd.C_below HC63.out hU)⟩
      have HRP : Aside0 (∀ U Au cu, Below W3.heap.size W3 U → x.nodes.length ≤ cu → Kd.C k128 U Au x.nodes.length (x.nodes.map rn) → Calls Tryz.prog 28 #[.agg #[.string x.nm, .int .i64 x.kind, .int .i64 x.metric, .int .i64 x.scale, .int .i64 x.cap, .int .i64 x.fleet, .slice Au x.nodes.length cu, .slice A7 x.mx.length c7]] U fun e w' => e = .returned (.string sx) ∧ Below U.heap.size U w') := ⟨fun U Au cu hU hcu hCu => by
        have hl : (x.nodes.map rn).length = x.nodes.length := List.length_map _
        obtain ⟨k, hk⟩ := (Evs.refPutX x (by have := HWL.out.ln; omega) (by have := HWL.out.l6; omega) (by have := HWL.out.l7; omega)).rounds
        rw [hsx] at hk
        have h := entrepotref22_Put.calls k x.nm x.kind x.metric x.scale x.cap x.fleet Au cu (x.nodes.map rn) A7 c7 x.mx sx U (by rw [hl]; exact hCu) (by rw [hl]; exact hcu) (Kd.C_below HC73.out hU) hc7 hk
        rw [hl] at h
        exact h⟩
      have HPP : Aside0 (∀ U, Below W3.heap.size W3 U → Calls Tryz.prog 30 #[.agg #[.slice A rs.length c]] U fun e w' => e = .returned (.string sp) ∧ Below U.heap.size U w') := ⟨fun U hU => by
        have h := putPlan_walk rs A c U (HT3.out.below hU) (by have := HOK.out.1; omega) (by have := HOK.out.2.1; omega) (Kd.C_below HC3.out hU)
        rw [hsp] at h
        exact h⟩
      have HRPP : Aside0 (∀ U, Below W3.heap.size W3 U → Calls Tryz.prog 31 #[.agg #[.slice A rs.length c]] U fun e w' => e = .returned (.string sp) ∧ Below U.heap.size U w') := ⟨fun U hU => by
        obtain ⟨k, hk⟩ := (Evs.refPutP rs (by have := HOK.out.1; omega) (fun r hr => by have := (HOK.out.2.2 r hr).1; omega)).rounds
        rw [hsp] at hk
        exact entrepotref22_PutPlan.calls k A c rs sp U (Kd.C_below HC3.out hU) hcc hk⟩
      clear x0 x1 x2 x3 x4 x5 x6 x7 hsx hsp HC63 HC73 HC3 HQ0 HQ1 HT3
      go_wp2_with fail
      refine start_ (n := 15) (S := fun w' => w'.cell? ⟨w.heap.size, 0, none⟩ = some (.string x.nm) ∧ w'.cell? ⟨w.heap.size, 1, none⟩ = some (.int .i64 x.kind) ∧ w'.cell? ⟨w.heap.size, 2, none⟩ = some (.int .i64 x.metric) ∧ w'.cell? ⟨w.heap.size, 3, none⟩ = some (.int .i64 x.scale) ∧ w'.cell? ⟨w.heap.size, 4, none⟩ = some (.int .i64 x.cap) ∧ w'.cell? ⟨w.heap.size, 5, none⟩ = some (.int .i64 x.fleet) ∧ w'.cell? ⟨w.heap.size, 6, none⟩ = some (.slice A6 x.nodes.length c6) ∧ w'.cell? ⟨w.heap.size, 7, none⟩ = some (.slice A7 x.mx.length c7) ∧ w'.cell? ⟨w.heap.size + 1, 0, none⟩ = some (.slice A rs.length c)) (ds := []) #[false, false, false, false, false, false, false, false, false, false, false, false, false, false, false] (by kernel_rfl) rfl rfl ⟨HF.out.1, HF.out.2.1, HF.out.2.2.1, HF.out.2.2.2.1, HF.out.2.2.2.2.1, HF.out.2.2.2.2.2.1, HF.out.2.2.2.2.2.2.1, HF.out.2.2.2.2.2.2.2.1, HF.out.2.2.2.2.2.2.2.2⟩ (fun hHeld => ?_)
      refine take_ (i := 0) (N := some 18) (v := ?_) (a' := ?_) #[true, false, false, false, false, false, false, false, false, false, false, false, false, false, false] rfl rfl (by kernel_rfl) (fun _ _ _ h => h) (Or.inl ⟨by rfl, ?_⟩) hHeld ?_ ?_
      rotate_left
      · rintro w' ⟨s0, s1, s2, s3, s4, s5, s6, s7, s8⟩
        go_simp
        with_reducible rfl
      rotate_left
      · simp only [Act.put, List.setIfInBounds_toArray, List.set_cons_zero, List.set_cons_succ, i64_w, i32_w]
        rfl
      refine take_ (i := 2) (N := some 20) (v := ?_) (a' := ?_) #[true, false, true, false, false, false, false, false, false, false, false, false, false, false, false] rfl rfl (by kernel_rfl) (fun _ _ _ h => h) (Or.inl ⟨by rfl, ?_⟩) hHeld ?_ ?_
      rotate_left
      · rintro w' ⟨s0, s1, s2, s3, s4, s5, s6, s7, s8⟩
        go_simp
        with_reducible rfl
      rotate_left
      · simp only [Act.put, List.setIfInBounds_toArray, List.set_cons_zero, List.set_cons_succ, i64_w, i32_w]
        rfl
      refine one_ (i := 1) (N := some 19) #[true, true, true, false, false, false, false, false, false, false, false, false, false, false, false] rfl rfl (by kernel_rfl) (by decide) (fun K hK => ?_)
      have hH := hHeld
      refine goes_ Tryz.func27 (by kernel_rfl) rfl #[inV x (.slice A6 x.nodes.length c6) (.slice A7 x.mx.length c7)] (by rfl) rfl rfl (by simp only [List.map_toArray, List.map_cons, List.map_nil]; rfl) ?_
      with_reducible refine ((HPUT.out _ (Below.refl _ _).drew)).mono ?_
      rintro e U1 ⟨rfl, bk⟩
      refine ⟨_, rfl, ?_⟩
      have HK1 := Aside0.mk ((Below.refl W3.heap.size W3).drew.trans bk)
      refine hK.out _ _ ⟨(cb3 bk hH.1), (cb3 bk hH.2.1), (cb3 bk hH.2.2.1), (cb3 bk hH.2.2.2.1), (cb3 bk hH.2.2.2.2.1), (cb3 bk hH.2.2.2.2.2.1), (cb3 bk hH.2.2.2.2.2.2.1), (cb3 bk hH.2.2.2.2.2.2.2.1), (cb3 bk hH.2.2.2.2.2.2.2.2)⟩ (fun hHeld => ?_)
      clear hK K
      refine norm_ (a' := ?_) ?_ ?_
      rotate_left
      · show Act.put _ (some 19) _ = _
        simp only [Act.put, List.setIfInBounds_toArray, List.set_cons_zero, List.set_cons_succ, i64_w, i32_w]
        rfl
      refine one_ (i := 3) (N := some 21) #[true, true, true, true, false, false, false, false, false, false, false, false, false, false, false] rfl rfl (by kernel_rfl) (by decide) (fun K hK => ?_)
      have hH := hHeld
      refine goes_ Tryz.func29 (by kernel_rfl) rfl #[inV x (.slice A6 x.nodes.length c6) (.slice A7 x.mx.length c7)] (by rfl) rfl rfl (by simp only [List.map_toArray, List.map_cons, List.map_nil]; rfl) ?_
      with_reducible refine ((HITS.out _ HK1.out)).mono ?_
      rintro e U2 ⟨u6, rfl, hRu, bk⟩
      refine ⟨_, rfl, ?_⟩
      obtain ⟨Au, cu, eu, hcu, hCu⟩ := Kd.R_reads hRu
      rw [List.length_map] at eu hcu hCu
      subst eu
      have HCU := Aside0.mk hCu
      have HCUL := Aside0.mk hcu
      have HK2 := Aside0.mk (HK1.out.trans (bk.mono HK1.out.size))
      refine hK.out _ _ ⟨(cb3 bk hH.1), (cb3 bk hH.2.1), (cb3 bk hH.2.2.1), (cb3 bk hH.2.2.2.1), (cb3 bk hH.2.2.2.2.1), (cb3 bk hH.2.2.2.2.2.1), (cb3 bk hH.2.2.2.2.2.2.1), (cb3 bk hH.2.2.2.2.2.2.2.1), (cb3 bk hH.2.2.2.2.2.2.2.2)⟩ (fun hHeld => ?_)
      clear hK K
      refine norm_ (a' := ?_) ?_ ?_
      rotate_left
      · show Act.put _ (some 21) _ = _
        simp only [Act.put, List.setIfInBounds_toArray, List.set_cons_zero, List.set_cons_succ, i64_w, i32_w]
        rfl
      refine one_ (i := 4) (N := some 22) #[true, true, true, true, true, false, false, false, false, false, false, false, false, false, false] rfl rfl (by kernel_rfl) (by decide) (fun K hK => ?_)
      have hH := hHeld
      refine goes_ Tryz.func28 (by kernel_rfl) rfl #[.agg #[.string x.nm, .int .i64 x.kind, .int .i64 x.metric, .int .i64 x.scale, .int .i64 x.cap, .int .i64 x.fleet, .slice Au x.nodes.length cu, .slice A7 x.mx.length c7]] (by rfl) rfl rfl (by simp only [List.map_toArray, List.map_cons, List.map_nil]; rfl) ?_
      with_reducible refine ((HRP.out _ Au cu HK2.out HCUL.out HCU.out)).mono ?_
      rintro e U3 ⟨rfl, bk⟩
      refine ⟨_, rfl, ?_⟩
      have HK3 := Aside0.mk (HK2.out.trans (bk.mono HK2.out.size))
      refine hK.out _ _ ⟨(cb3 bk hH.1), (cb3 bk hH.2.1), (cb3 bk hH.2.2.1), (cb3 bk hH.2.2.2.1), (cb3 bk hH.2.2.2.2.1), (cb3 bk hH.2.2.2.2.2.1), (cb3 bk hH.2.2.2.2.2.2.1), (cb3 bk hH.2.2.2.2.2.2.2.1), (cb3 bk hH.2.2.2.2.2.2.2.2)⟩ (fun hHeld => ?_)
      clear hK K
      refine norm_ (a' := ?_) ?_ ?_
      rotate_left
      · show Act.put _ (some 22) _ = _
        simp only [Act.put, List.setIfInBounds_toArray, List.set_cons_zero, List.set_cons_succ, i64_w, i32_w]
        rfl
      refine pure_ (i := 5) (N := some 23) (v := ?_) (a' := ?_) #[true, true, true, true, true, true, false, false, false, false, false, false, false, false, false] rfl rfl (by kernel_rfl) (fun _ _ _ h => h) (Or.inl ⟨by rfl, ?_⟩) ?_ ?_
      rotate_left
      · intro w'
        go_simp
        with_reducible rfl
      rotate_left
      · simp only [Act.put, List.setIfInBounds_toArray, List.set_cons_zero, List.set_cons_succ, i64_w, i32_w]
        rfl
      refine pure_ (i := 6) (N := some 24) (v := ?_) (a' := ?_) #[true, true, true, true, true, true, true, false, false, false, false, false, false, false, false] rfl rfl (by kernel_rfl) (fun _ _ _ h => h) (Or.inl ⟨by rfl, ?_⟩) ?_ ?_
      rotate_left
      · intro w'
        go_simp
        with_reducible rfl
      rotate_left
      · simp only [Act.put, List.setIfInBounds_toArray, List.set_cons_zero, List.set_cons_succ, i64_w, i32_w]
        rfl
      refine take_ (i := 7) (N := some 25) (v := ?_) (a' := ?_) #[true, true, true, true, true, true, true, true, false, false, false, false, false, false, false] rfl rfl (by kernel_rfl) (fun _ _ _ h => h) (Or.inl ⟨by rfl, ?_⟩) hHeld ?_ ?_
      rotate_left
      · rintro w' ⟨s0, s1, s2, s3, s4, s5, s6, s7, s8⟩
        go_simp
        with_reducible rfl
      rotate_left
      · simp only [Act.put, List.setIfInBounds_toArray, List.set_cons_zero, List.set_cons_succ, i64_w, i32_w]
        rfl
      refine take_ (i := 9) (N := some 27) (v := ?_) (a' := ?_) #[true, true, true, true, true, true, true, true, false, true, false, false, false, false, false] rfl rfl (by kernel_rfl) (fun _ _ _ h => h) (Or.inl ⟨by rfl, ?_⟩) hHeld ?_ ?_
      rotate_left
      · rintro w' ⟨s0, s1, s2, s3, s4, s5, s6, s7, s8⟩
        go_simp
        with_reducible rfl
      rotate_left
      · simp only [Act.put, List.setIfInBounds_toArray, List.set_cons_zero, List.set_cons_succ, i64_w, i32_w]
        rfl
      refine one_ (i := 8) (N := some 26) #[true, true, true, true, true, true, true, true, true, true, false, false, false, false, false] rfl rfl (by kernel_rfl) (by decide) (fun K hK => ?_)
      have hH := hHeld
      refine goes_ Tryz.func30 (by kernel_rfl) rfl #[.agg #[.slice A rs.length c]] (by rfl) rfl rfl (by simp only [List.map_toArray, List.map_cons, List.map_nil]; rfl) ?_
      with_reducible refine ((HPP.out _ HK3.out)).mono ?_
      rintro e U4 ⟨rfl, bk⟩
      refine ⟨_, rfl, ?_⟩
      have HK4 := Aside0.mk (HK3.out.trans (bk.mono HK3.out.size))
      refine hK.out _ _ ⟨(cb3 bk hH.1), (cb3 bk hH.2.1), (cb3 bk hH.2.2.1), (cb3 bk hH.2.2.2.1), (cb3 bk hH.2.2.2.2.1), (cb3 bk hH.2.2.2.2.2.1), (cb3 bk hH.2.2.2.2.2.2.1), (cb3 bk hH.2.2.2.2.2.2.2.1), (cb3 bk hH.2.2.2.2.2.2.2.2)⟩ (fun hHeld => ?_)
      clear hK K
      refine norm_ (a' := ?_) ?_ ?_
      rotate_left
      · show Act.put _ (some 26) _ = _
        simp only [Act.put, List.setIfInBounds_toArray, List.set_cons_zero, List.set_cons_succ, i64_w, i32_w]
        rfl
      refine one_ (i := 10) (N := some 28) #[true, true, true, true, true, true, true, true, true, true, true, false, false, false, false] rfl rfl (by kernel_rfl) (by decide) (fun K hK => ?_)
      have hH := hHeld
      refine goes_ Tryz.func32 (by kernel_rfl) rfl #[.agg #[.slice A rs.length c]] (by rfl) rfl rfl (by simp only [List.map_toArray, List.map_cons, List.map_nil]; rfl) ?_
      with_reducible refine ((theirs_walk _ A rs.length c _ rfl)).mono ?_
      rintro e U5 ⟨rfl, bk⟩
      refine ⟨_, rfl, ?_⟩
      have HK5 := Aside0.mk (HK4.out.trans (bk.mono HK4.out.size))
      refine hK.out _ _ ⟨(cb3 bk hH.1), (cb3 bk hH.2.1), (cb3 bk hH.2.2.1), (cb3 bk hH.2.2.2.1), (cb3 bk hH.2.2.2.2.1), (cb3 bk hH.2.2.2.2.2.1), (cb3 bk hH.2.2.2.2.2.2.1), (cb3 bk hH.2.2.2.2.2.2.2.1), (cb3 bk hH.2.2.2.2.2.2.2.2)⟩ (fun hHeld => ?_)
      clear hK K
      refine norm_ (a' := ?_) ?_ ?_
      rotate_left
      · show Act.put _ (some 28) _ = _
        simp only [Act.put, List.setIfInBounds_toArray, List.set_cons_zero, List.set_cons_succ, i64_w, i32_w]
        rfl
      refine one_ (i := 11) (N := some 29) #[true, true, true, true, true, true, true, true, true, true, true, true, false, false, false] rfl rfl (by kernel_rfl) (by decide) (fun K hK => ?_)
      have hH := hHeld
      refine goes_ Tryz.func31 (by kernel_rfl) rfl #[.agg #[.slice A rs.length c]] (by rfl) rfl rfl (by simp only [List.map_toArray, List.map_cons, List.map_nil]; rfl) ?_
      with_reducible refine ((HRPP.out _ HK5.out)).mono ?_
      rintro e U6 ⟨rfl, bk⟩
      refine ⟨_, rfl, ?_⟩
      have HK6 := Aside0.mk (HK5.out.trans (bk.mono HK5.out.size))
      refine hK.out _ _ ⟨(cb3 bk hH.1), (cb3 bk hH.2.1), (cb3 bk hH.2.2.1), (cb3 bk hH.2.2.2.1), (cb3 bk hH.2.2.2.2.1), (cb3 bk hH.2.2.2.2.2.1), (cb3 bk hH.2.2.2.2.2.2.1), (cb3 bk hH.2.2.2.2.2.2.2.1), (cb3 bk hH.2.2.2.2.2.2.2.2)⟩ (fun hHeld => ?_)
      clear hK K
      refine norm_ (a' := ?_) ?_ ?_
      rotate_left
      · show Act.put _ (some 29) _ = _
        simp only [Act.put, List.setIfInBounds_toArray, List.set_cons_zero, List.set_cons_succ, i64_w, i32_w]
        rfl
      refine pure_ (i := 12) (N := some 30) (v := ?_) (a' := ?_) #[true, true, true, true, true, true, true, true, true, true, true, true, true, false, false] rfl rfl (by kernel_rfl) (fun _ _ _ h => h) (Or.inl ⟨by rfl, ?_⟩) ?_ ?_
      rotate_left
      · intro w'
        go_simp
        with_reducible rfl
      rotate_left
      · simp only [Act.put, List.setIfInBounds_toArray, List.set_cons_zero, List.set_cons_succ, i64_w, i32_w]
        rfl
      refine pure_ (i := 13) (N := some 31) (v := ?_) (a' := ?_) #[true, true, true, true, true, true, true, true, true, true, true, true, true, true, false] rfl rfl (by kernel_rfl) (fun _ _ _ h => h) (Or.inl ⟨by rfl, ?_⟩) ?_ ?_
      rotate_left
      · intro w'
        go_simp
        with_reducible rfl
      rotate_left
      · simp only [Act.put, List.setIfInBounds_toArray, List.set_cons_zero, List.set_cons_succ, i64_w, i32_w]
        rfl
      refine pure_ (i := 14) (N := some 4) (v := ?_) (a' := ?_) #[true, true, true, true, true, true, true, true, true, true, true, true, true, true, true] rfl rfl (by kernel_rfl) (fun _ _ _ h => h) (Or.inl ⟨by rfl, ?_⟩) ?_ ?_
      rotate_left
      · intro w'
        go_simp
        with_reducible rfl
      rotate_left
      · simp only [Act.put, List.setIfInBounds_toArray, List.set_cons_zero, List.set_cons_succ, i64_w, i32_w]
        rfl
      refine done_ (by kernel_rfl) ?_
      go_wp2_with fail
      go_ret
      exact ⟨by first | rfl | simp, HB3.out.trans (HK6.out.mono HB3.out.size)⟩
end Go.Proofs.YtofklpphalalhaaGreatDoor
