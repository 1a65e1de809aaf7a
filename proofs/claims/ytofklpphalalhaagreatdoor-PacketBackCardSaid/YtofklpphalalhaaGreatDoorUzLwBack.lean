/- packet's law PacketBack, walked by hand. Conditions: the sums' table lies as listed. -/
import Derived.Test.YtofklpphalalhaaGreatDoorUzLwA
import Derived.Test.YtofklpphalalhaaGreatDoorUzJ26
namespace Go.Proofs.YtofklpphalalhaaGreatDoor
set_option linter.unusedVariables false
set_option linter.unusedSimpArgs false
open Go.RowKit Go.Proofs.YtofklpphalalhaaGreatDoor.PAll Go.Proofs.YtofklpphalalhaaGreatDoorW.PrintWords Go.Proofs.YtofklpphalalhaaGreatDoorW.PrintLast Go.Proofs.YtofklpphalalhaaGreatDoorW.PrintMore
theorem cb2 {w w1 : World} {a : Addr} {v : Value} (hb : Below w.heap.size w w1) (h : w.cell? a = some v) : w1.cell? a = some v := by
  have hl : a.block < w.heap.size := by
    rcases Nat.lt_or_ge a.block w.heap.size with h' | h'
    · exact h'
    · unfold World.cell? at h; rw [Array.getElem?_eq_none h'] at h; cases h
  rw [hb.cell (p := a) hl]; exact h
set_option maxRecDepth 100000 in
set_option maxHeartbeats 32000000 in
theorem back_walk (x : Cn.In) (A6 A7 : Option Addr) (c6 c7 : Nat) (rs : List (List Int)) (A : Option Addr) (c : Nat) (w : World) (HT : Tab w) (ho : ∀ d ∈ x.nodes, NodeOk d) (hc7 : x.mx.length ≤ c7) (hcc : rs.length ≤ c) (hC6 : Kd.C k71 w A6 x.nodes.length x.nodes) (hC7 : Kd.C (Kd.int .i64) w A7 x.mx.length x.mx) (hC : Kd.C kRow w A rs.length rs) :
    Calls Tryz.prog 9 #[inV x (.slice A6 x.nodes.length c6) (.slice A7 x.mx.length c7), .agg #[.slice A rs.length c]] w fun e w' => e = .returned (.bool true) ∧ Below w.heap.size w w' := by
  obtain ⟨V, hV⟩ : ∃ V, V = (w.alloc (inB x (.slice A6 x.nodes.length c6) (.slice A7 x.mx.length c7))).alloc (.cells #[.slice A rs.length c] 28) := ⟨_, rfl⟩
  have hb := below_two w (inB x (.slice A6 x.nodes.length c6) (.slice A7 x.mx.length c7)) (.cells #[.slice A rs.length c] 28)
  have htb := two_blocks w (inB x (.slice A6 x.nodes.length c6) (.slice A7 x.mx.length c7)) (.cells #[.slice A rs.length c] 28)
  rw [← hV] at hb htb
  have hsV : V.heap.size = w.heap.size + 2 := by rw [hV]; simp
  have hT := HT.below hb
  obtain ⟨sm, hsm, hS⟩ := small_walk rs
  obtain ⟨bw, hbw⟩ : ∃ b, wl x = b := ⟨_, rfl⟩
  have hw := well22_walk x A6 A7 c6 c7 V ho hc7 (Kd.C_below hC6 hb) (Kd.C_below hC7 hb)
  rw [hbw, hV] at hw
  have HW := Aside0.mk hw
  have HV := Aside0.mk hV
  have HB := Aside0.mk hb
  have HC6 := Aside0.mk (Kd.C_below hC6 hb)
  have HC7 := Aside0.mk (Kd.C_below hC7 hb)
  have HC := Aside0.mk (Kd.C_below hC hb)
  have HTB := Aside0.mk htb
  have HSV := Aside0.mk hsV
  have HTV := Aside0.mk hT
  have HS := Aside0.mk hS
  have HSM := Aside0.mk hsm
  have HBW := Aside0.mk hbw
  clear hw hV hb htb hsV hT hS hC6 hC7 hC HT hsm hbw
  cases bw with
  | false =>
    go_enter Tryz.func9, Tryz.ntmps9
    go_wp2_with fail
    refine HW.out.mono ?_
    rintro e W1 ⟨rfl, b1⟩
    rw [← HV.out] at b1
    have HSH := Aside0.mk (shown22_walk W1 (HTV.out.below b1))
    have HB1 := Aside0.mk (HB.out.trans (b1.mono HB.out.size))
    clear b1 HW
    go_wp2_with fail
    refine HSH.out.mono ?_
    rintro e W2 ⟨rfl, b2⟩
    have HB2 := Aside0.mk (HB1.out.trans (b2.mono HB1.out.size))
    clear b2 HSH
    go_wp2_with fail
    go_ret
    exact ⟨rfl, HB2.out⟩
  | true =>
    have HWL := Aside0.mk (wl_tells x ho HBW.out)
    cases sm with
    | false =>
      go_enter Tryz.func9, Tryz.ntmps9
      go_wp2_with fail
      refine HW.out.mono ?_
      rintro e W1 ⟨rfl, b1⟩
      rw [← HV.out] at b1
      have p1 : W1.cell? ⟨w.heap.size + 1, 0, none⟩ = some (.slice A rs.length c) := by
        rw [Lib.cell_of_heap ((b1.block _ (by rw [HSV.out]; omega)).trans HTB.out.2)]; rfl
      have HS1 := Aside0.mk (HS.out A c W1 (Kd.C_below HC.out b1) hcc)
      have HT1 := Aside0.mk (HTV.out.below b1)
      have HB1 := Aside0.mk (HB.out.trans (b1.mono HB.out.size))
      clear b1 HW
      go_wp2_with fail
      refine HS1.out.mono ?_
      rintro e W2 ⟨rfl, b2⟩
      have HSH := Aside0.mk (shown22_walk W2 (HT1.out.below b2))
      have HB2 := Aside0.mk (HB1.out.trans (b2.mono HB1.out.size))
      clear b2 HS1 p1
      go_wp2_with fail
      refine HSH.out.mono ?_
      rintro e W3 ⟨rfl, b3⟩
      have HB3 := Aside0.mk (HB2.out.trans (b3.mono HB2.out.size))
      clear b3 HSH
      go_wp2_with fail
      go_ret
      exact ⟨rfl, HB3.out⟩
    | true =>
      have HOK := Aside0.mk (HSM.out rfl)
      go_enter Tryz.func9, Tryz.ntmps9
      go_wp2_with fail
      refine HW.out.mono ?_
      rintro e W1 ⟨rfl, b1⟩
      rw [← HV.out] at b1
      have p1 : W1.cell? ⟨w.heap.size + 1, 0, none⟩ = some (.slice A rs.length c) := by
        rw [Lib.cell_of_heap ((b1.block _ (by rw [HSV.out]; omega)).trans HTB.out.2)]; rfl
      have HS1 := Aside0.mk (HS.out A c W1 (Kd.C_below HC.out b1) hcc)
      have HT1 := Aside0.mk (HTV.out.below b1)
      have HB1 := Aside0.mk b1
      clear b1 HW
      go_wp2_with fail
      refine HS1.out.mono ?_
      rintro e W2 ⟨rfl, b2⟩
      have HSH := Aside0.mk (shown22_walk W2 (HT1.out.below b2))
      have HT2 := Aside0.mk (HT1.out.below b2)
      have HB2 := Aside0.mk (HB1.out.trans (b2.mono HB1.out.size))
      clear b2 HS1 p1 HT1 HB1
      go_wp2_with fail
      refine HSH.out.mono ?_
      rintro e W3 ⟨rfl, b3⟩
      have hT3 := HT2.out.below b3
      have hb3 := HB2.out.trans (b3.mono HB2.out.size)
      clear HSH HT2 HB2 b3
      have q0 := (hb3.block _ (by rw [HSV.out]; omega)).trans HTB.out.1
      have q1 := (hb3.block _ (by rw [HSV.out]; omega)).trans HTB.out.2
      have HQ0 := Aside0.mk q0
      have HQ1 := Aside0.mk q1
      have HC63 := Aside0.mk (Kd.C_below HC6.out hb3)
      have HC73 := Aside0.mk (Kd.C_below HC7.out hb3)
      have HC3 := Aside0.mk (Kd.C_below HC.out hb3)
      have HB3 := Aside0.mk (HB.out.trans (hb3.mono HB.out.size))
      have HT3 := Aside0.mk hT3
      obtain ⟨x0, x1, x2, x3, x4, x5, x6, x7⟩ := box_cells q0
      clear q0 q1 HV HB HC6 HC7 HC HTB HSV HTV HS HSM HBW hb3 hT3
      obtain ⟨sx, hsx⟩ : ∃ s, Evs.S (Pk.shut (Pp.inst x)) = s := ⟨_, rfl⟩
      obtain ⟨sp, hsp⟩ : ∃ s, Evs.S (Pk.shut (Pp.plan rs)) = s := ⟨_, rfl⟩
      have hput := put_walk x A6 A7 c6 c7 W3 HT3.out (by have := HWL.out.ln; omega) (by have := HWL.out.l6; omega) (by have := HWL.out.l7; omega) HC63.out HC73.out
      rw [hsx] at hput
      have HPUT := Aside0.mk hput
      have HSX := Aside0.mk hsx
      have HSP := Aside0.mk hsp
      clear hput hsx hsp
      go_wp2_with fail
      refine HPUT.out.mono ?_
      rintro e W4 ⟨rfl, b4⟩
      have hpp := putPlan_walk rs A c W4 (HT3.out.below b4) (by have := HOK.out.1; omega) (by have := HOK.out.2.1; omega) (Kd.C_below HC3.out b4)
      rw [HSP.out] at hpp
      have HPP := Aside0.mk hpp
      have p1 : W4.cell? ⟨w.heap.size + 1, 0, none⟩ = some (.slice A rs.length c) := by
        rw [Lib.cell_of_heap ((b4.block _ (Array.getElem?_eq_some_iff.1 HQ1.out).1).trans HQ1.out)]; rfl
      have HT4 := Aside0.mk (HT3.out.below b4)
      have HB4 := Aside0.mk b4
      clear hpp b4 HPUT x0 x1 x2 x3 x4 x5 x6 x7
      go_wp2_with fail
      refine HPP.out.mono ?_
      rintro e W5 ⟨rfl, b5⟩
      have HT5 := Aside0.mk (HT4.out.below b5)
      have HB5 := Aside0.mk (HB4.out.trans (b5.mono HB4.out.size))
      clear b5 HPP p1 HT4 HB4
      have hlx := HWL.out.len
      have hlp := ok_len HOK.out
      have hxz : sx.size ≤ 1000000000 := by rw [← HSX.out, Evs.S_size, Pk.shut_len]; omega
      have hpz : sp.size ≤ 1000000000 := by rw [← HSP.out, Evs.S_size, Pk.shut_len]; omega
      have gx := Rr.get_back x HWL.out.p
      rw [HWL.out.told, HSX.out] at gx
      have gp := Rr.getPlan_back rs (ok_rows HOK.out) (by have := HOK.out.1; omega)
      rw [HSP.out] at gp
      have mx := Rr.get_plan rs
      rw [HSP.out] at mx
      have mp := Rr.getPlan_inst x
      rw [HSX.out] at mp
      obtain ⟨F, hF⟩ : ∃ F, Cn.norm x = F := ⟨_, rfl⟩
      rw [hF] at gx
      have hg := get_walk sx hxz W5 HT5.out
      rw [gx] at hg
      dsimp only at hg
      have HG := Aside0.mk hg
      have HGP := Aside0.mk gp
      have HMX := Aside0.mk mx
      have HMP := Aside0.mk mp
      have HFN := Aside0.mk hF
      have HXZ := Aside0.mk hxz
      have HPZ := Aside0.mk hpz
      clear hlx hlp hxz hpz gx gp mx mp hF hg
      go_wp2_with fail
      refine HG.out.mono ?_
      rintro e W6 ⟨v6_, vl6, rfl, ⟨y6, y7, rfl, hY6, hY7⟩, hD, b6⟩
      obtain ⟨Ay, cy, ey6, _, hCy6⟩ := Kd.R_reads hY6
      obtain ⟨By, dy, ey7, _, hCy7⟩ := Kd.R_reads hY7
      obtain ⟨Al, cl, el⟩ := Kd.R_slice (R_of_own hD)
      replace el : vl6 = .slice Al 0 cl := el
      subst ey6
      subst ey7
      subst el
      obtain ⟨X6, hX6⟩ : ∃ X, X = W6.alloc (inB F (.slice Ay F.nodes.length cy) (.slice By F.mx.length dy)) := ⟨_, rfl⟩
      have hbx := below_one W6 (inB F (.slice Ay F.nodes.length cy) (.slice By F.mx.length dy))
      rw [← hX6] at hbx
      have HK6 := Aside0.mk (HB5.out.trans ((b6.trans (hbx.mono b6.size)).mono HB5.out.size))
      have HT6 := Aside0.mk (HT5.out.below (b6.trans (hbx.mono b6.size)))
      have HY6 := Aside0.mk (Kd.C_below hCy6 hbx)
      have HY7 := Aside0.mk (Kd.C_below hCy7 hbx)
      have HYB : Aside0 (X6.heap[W6.heap.size]? = some (inB F (.slice Ay F.nodes.length cy) (.slice By F.mx.length dy))) := ⟨by rw [hX6]; exact Array.getElem?_push_size⟩
      have hg := getPlan_walk sp HPZ.out X6 HT6.out
      rw [HGP.out, hX6] at hg
      dsimp only at hg
      have HG2 := Aside0.mk hg
      have HX6 := Aside0.mk hX6
      clear hY6 hY7 hD b6 hCy6 hCy7 hbx hg hX6 HG HT5 HB5 HGP
      go_wp2_with fail
      refine HG2.out.mono ?_
      rintro e W7 ⟨vq, rfl, hQ, b7⟩
      rw [← HX6.out] at hQ b7
      obtain ⟨Aq, cq, eq, _, hCq⟩ := Kd.R_reads hQ
      subst eq
      obtain ⟨X7, hX7⟩ : ∃ X, X = (W7.alloc (.cells #[.slice Aq rs.length cq] 28)).alloc (.cells #[.int .i64 0, .int .i64 0] 38) := ⟨_, rfl⟩
      have hbx := below_two W7 (.cells #[.slice Aq rs.length cq] 28) (.cells #[.int .i64 0, .int .i64 0] 38)
      have htx := two_blocks W7 (.cells #[.slice Aq rs.length cq] 28) (.cells #[.int .i64 0, .int .i64 0] 38)
      rw [← hX7] at hbx htx
      have HK7 := Aside0.mk (b7.trans (hbx.mono b7.size))
      have HT7 := Aside0.mk (HT6.out.below HK7.out)
      have HCQ := Aside0.mk (Kd.C_below hCq hbx)
      have HTX := Aside0.mk htx
      have hg := get_walk sp HPZ.out X7 HT7.out
      rw [HMX.out, hX7] at hg
      dsimp only at hg
      have HG := Aside0.mk hg
      have HX7 := Aside0.mk hX7
      clear hQ b7 hCq hbx htx hg hX7 HG2 HT6 HMX
      go_wp2_with fail
      refine HG.out.mono ?_
      rintro e W8 ⟨v8, vl8, rfl, ⟨z6, z7, rfl, hZ6, hZ7⟩, hD, b8⟩
      rw [← HX7.out] at hZ6 hZ7 hD b8
      obtain ⟨Az, cz, ez6⟩ := Kd.R_slice hZ6
      obtain ⟨Bz, dz, ez7⟩ := Kd.R_slice hZ7
      replace ez6 : z6 = .slice Az 0 cz := ez6
      replace ez7 : z7 = .slice Bz 0 dz := ez7
      subst ez6
      subst ez7
      obtain ⟨An, cn, en, hcn, hCn⟩ := Kd.R_reads (R_of_own hD)
      replace en : vl8 = .slice An 1 cn := en
      subst en
      obtain ⟨X8, hX8⟩ : ∃ X, X = W8.alloc (inB Cn.zero (.slice Az 0 cz) (.slice Bz 0 dz)) := ⟨_, rfl⟩
      have hbx := below_one W8 (inB Cn.zero (.slice Az 0 cz) (.slice Bz 0 dz))
      rw [← hX8] at hbx
      have HK8 := Aside0.mk (b8.trans (hbx.mono b8.size))
      have HT8 := Aside0.mk (HT7.out.below HK8.out)
      have HCN := Aside0.mk (Kd.C_below hCn hbx)
      have hg := getPlan_walk sx HXZ.out X8 HT8.out
      rw [HMP.out, hX8] at hg
      dsimp only at hg
      have HG2 := Aside0.mk hg
      have HX8 := Aside0.mk hX8
      clear hZ6 hZ7 hD b8 hcn hCn hbx hg hX8 HG HT7 HMP
      go_wp2_with fail
      refine HG2.out.mono ?_
      rintro e W9 ⟨vq, rfl, hQ, b9⟩
      rw [← HX8.out] at hQ b9
      obtain ⟨Ar, cr, er⟩ := Kd.R_slice hQ
      replace er : vq = .slice Ar 0 cr := er
      subst er
      obtain ⟨X9, hX9⟩ : ∃ X, ((W9.alloc (.cells #[.slice Ar 0 cr] 28)).alloc (.cells #[.int .i64 0, .int .i64 220] 38)).alloc (.cells #[.int .i64 0, .int .i64 220] 38) = X := ⟨_, rfl⟩
      have hs2 : ((W9.alloc (.cells #[.slice Ar 0 cr] 28)).alloc (.cells #[.int .i64 0, .int .i64 220] 38)).heap.size = W9.heap.size + 2 := by simp
      have htx := two_blocks W9 (.cells #[.slice Ar 0 cr] 28) (.cells #[.int .i64 0, .int .i64 220] 38)
      have hk3 := below_one ((W9.alloc (.cells #[.slice Ar 0 cr] 28)).alloc (.cells #[.int .i64 0, .int .i64 220] 38)) (.cells #[.int .i64 0, .int .i64 220] 38)
      have hbx := (below_two W9 (.cells #[.slice Ar 0 cr] 28) (.cells #[.int .i64 0, .int .i64 220] 38)).trans (hk3.mono (by rw [hs2]; omega))
      have q9 : (((W9.alloc (.cells #[.slice Ar 0 cr] 28)).alloc (.cells #[.int .i64 0, .int .i64 220] 38)).alloc (.cells #[.int .i64 0, .int .i64 220] 38)).heap[W9.heap.size + 1 + 1]? = some (.cells #[.int .i64 0, .int .i64 220] 38) := by
        rw [show W9.heap.size + 1 + 1 = ((W9.alloc (.cells #[.slice Ar 0 cr] 28)).alloc (.cells #[.int .i64 0, .int .i64 220] 38)).heap.size by rw [hs2]]; exact Array.getElem?_push_size
      have q8 := (hk3.block (W9.heap.size + 1) (by rw [hs2]; omega)).trans htx.2
      rw [hX9] at hbx q9 q8
      have k8 := b9.trans (hbx.mono b9.size)
      have k7 := HK8.out.trans (k8.mono HK8.out.size)
      have k6 := HK7.out.trans (k7.mono HK7.out.size)
      have k3 := HK6.out.trans (k6.mono HK6.out.size)
      have m7 := k7
      have HBW := Aside0.mk (HB3.out.trans (k3.mono HB3.out.size))
      have hx9 := (k3.block _ (Array.getElem?_eq_some_iff.1 HQ0.out).1).trans HQ0.out
      have hp9 := (k3.block _ (Array.getElem?_eq_some_iff.1 HQ1.out).1).trans HQ1.out
      have hy9 := (k6.block _ (Array.getElem?_eq_some_iff.1 HYB.out).1).trans HYB.out
      have ht9 := (k7.block _ (Array.getElem?_eq_some_iff.1 HTX.out.1).1).trans HTX.out.1
      have ht0 := (k7.block _ (Array.getElem?_eq_some_iff.1 HTX.out.2).1).trans HTX.out.2
      obtain ⟨an, eN, n0_, n1_⟩ := at_T38 (Kd.C_below HCN.out k8) 0 (by decide) (show (0 : Int) < 1 by decide)
      replace n0_ : World.cell? _ (an.add (0 * 2)) = some (.int .i64 0) := n0_
      replace n1_ : World.cell? _ ⟨(an.add (0 * 2)).block, (an.add (0 * 2)).off + 1, none⟩ = some (.int .i64 220) := n1_
      subst eN
      simp only [Nat.zero_mul, addz] at n0_ n1_
      have HF : Aside0 (X9.cell? ⟨w.heap.size, 0, none⟩ = some (.string x.nm) ∧ X9.cell? ⟨w.heap.size, 1, none⟩ = some (.int .i64 x.kind) ∧ X9.cell? ⟨w.heap.size, 2, none⟩ = some (.int .i64 x.metric) ∧ X9.cell? ⟨w.heap.size, 3, none⟩ = some (.int .i64 x.scale) ∧ X9.cell? ⟨w.heap.size, 4, none⟩ = some (.int .i64 x.cap) ∧ X9.cell? ⟨w.heap.size, 5, none⟩ = some (.int .i64 x.fleet) ∧ X9.cell? ⟨w.heap.size, 6, none⟩ = some (.slice A6 x.nodes.length c6) ∧ X9.cell? ⟨w.heap.size, 7, none⟩ = some (.slice A7 x.mx.length c7) ∧ X9.cell? ⟨W6.heap.size, 0, none⟩ = some (.string F.nm) ∧ X9.cell? ⟨W6.heap.size, 1, none⟩ = some (.int .i64 F.kind) ∧ X9.cell? ⟨W6.heap.size, 2, none⟩ = some (.int .i64 F.metric) ∧ X9.cell? ⟨W6.heap.size, 3, none⟩ = some (.int .i64 F.scale) ∧ X9.cell? ⟨W6.heap.size, 4, none⟩ = some (.int .i64 F.cap) ∧ X9.cell? ⟨W6.heap.size, 5, none⟩ = some (.int .i64 F.fleet) ∧ X9.cell? ⟨W6.heap.size, 6, none⟩ = some (.slice Ay F.nodes.length cy) ∧ X9.cell? ⟨W6.heap.size, 7, none⟩ = some (.slice By F.mx.length dy) ∧ X9.cell? ⟨w.heap.size + 1, 0, none⟩ = some (.slice A rs.length c) ∧ X9.cell? ⟨W7.heap.size, 0, none⟩ = some (.slice Aq rs.length cq) ∧ X9.cell? ⟨W7.heap.size + 1, 0, none⟩ = some (.int .i64 0) ∧ X9.cell? ⟨W7.heap.size + 1, 1, none⟩ = some (.int .i64 0) ∧ X9.cell? ⟨W9.heap.size + 1, 0, none⟩ = some (.int .i64 0) ∧ X9.cell? ⟨W9.heap.size + 1, 1, none⟩ = some (.int .i64 220) ∧ X9.cell? ⟨W9.heap.size + 1 + 1, 0, none⟩ = some (.int .i64 0) ∧ X9.cell? ⟨W9.heap.size + 1 + 1, 1, none⟩ = some (.int .i64 220) ∧ X9.cell? an = some (.int .i64 0) ∧ X9.cell? ⟨an.block, an.off + 1, none⟩ = some (.int .i64 220)) := ⟨by
        obtain ⟨x0, x1, x2, x3, x4, x5, x6, x7⟩ := box_cells hx9
        obtain ⟨y0, y1, y2, y3, y4, y5, y6, y7⟩ := box_cells hy9
        refine ⟨x0, x1, x2, x3, x4, x5, x6, x7, y0, y1, y2, y3, y4, y5, y6, y7, ?_, ?_, ?_, ?_, ?_, ?_, ?_, ?_, n0_, n1_⟩
        · rw [Lib.cell_of_heap hp9]; rfl
        · rw [Lib.cell_of_heap ht9]; rfl
        · rw [Lib.cell_of_heap ht0]; rfl
        · rw [Lib.cell_of_heap ht0]; rfl
        · rw [Lib.cell_of_heap q8]; rfl
        · rw [Lib.cell_of_heap q8]; rfl
        · rw [Lib.cell_of_heap q9]; rfl
        · rw [Lib.cell_of_heap q9]; rfl⟩
      have HN9 : Aside0 (∀ U, Below X9.heap.size X9 U → Calls Tryz.prog 21 #[inV x (.slice A6 x.nodes.length c6) (.slice A7 x.mx.length c7)] U fun e w' => ∃ v6 v7, e = .returned (inV F v6 v7) ∧ Kd.R k71 71 w' U.heap.size (fun _ => True) v6 F.nodes ∧ Kd.R (Kd.int .i64) 3 w' U.heap.size (fun _ => True) v7 F.mx ∧ Below U.heap.size U w') := ⟨fun U hU => by
        have h := norm_walk x A6 A7 c6 c7 U (by have := HWL.out.l6; omega) (by have := HWL.out.l7; omega) (Kd.C_below (Kd.C_below HC63.out k3) hU) (Kd.C_below (Kd.C_below HC73.out k3) hU)
        rw [HFN.out] at h
        exact h⟩
      have HY6 := Aside0.mk (Kd.C_below HY6.out k6)
      have HY7 := Aside0.mk (Kd.C_below HY7.out k6)
      have HCQ := Aside0.mk (Kd.C_below HCQ.out k7)
      have HC3 := Aside0.mk (Kd.C_below HC3.out k3)
      have hq0 := same38 0 0
      have hq1 := same38 0 220
      clear hQ b9 hs2 htx hk3 hbx q9 q8 k8 k7 k6 k3 m7 hx9 hp9 hy9 ht9 ht0 n0_ n1_ HK6 HK7 HK8 HT8 HYB HTX HCN HB3 HQ0 HQ1 HC63 HC73 HX6 HX7 HX8 HG2 HSX HSP HT3
      go_wp2_with fail
      (try rw [hX9])
      clear hX9
      refine start_ (n := 37) (S := fun w' => w'.cell? ⟨w.heap.size, 0, none⟩ = some (.string x.nm) ∧ w'.cell? ⟨w.heap.size, 1, none⟩ = some (.int .i64 x.kind) ∧ w'.cell? ⟨w.heap.size, 2, none⟩ = some (.int .i64 x.metric) ∧ w'.cell? ⟨w.heap.size, 3, none⟩ = some (.int .i64 x.scale) ∧ w'.cell? ⟨w.heap.size, 4, none⟩ = some (.int .i64 x.cap) ∧ w'.cell? ⟨w.heap.size, 5, none⟩ = some (.int .i64 x.fleet) ∧ w'.cell? ⟨w.heap.size, 6, none⟩ = some (.slice A6 x.nodes.length c6) ∧ w'.cell? ⟨w.heap.size, 7, none⟩ = some (.slice A7 x.mx.length c7) ∧ w'.cell? ⟨W6.heap.size, 0, none⟩ = some (.string F.nm) ∧ w'.cell? ⟨W6.heap.size, 1, none⟩ = some (.int .i64 F.kind) ∧ w'.cell? ⟨W6.heap.size, 2, none⟩ = some (.int .i64 F.metric) ∧ w'.cell? ⟨W6.heap.size, 3, none⟩ = some (.int .i64 F.scale) ∧ w'.cell? ⟨W6.heap.size, 4, none⟩ = some (.int .i64 F.cap) ∧ w'.cell? ⟨W6.heap.size, 5, none⟩ = some (.int .i64 F.fleet) ∧ w'.cell? ⟨W6.heap.size, 6, none⟩ = some (.slice Ay F.nodes.length cy) ∧ w'.cell? ⟨W6.heap.size, 7, none⟩ = some (.slice By F.mx.length dy) ∧ w'.cell? ⟨w.heap.size + 1, 0, none⟩ = some (.slice A rs.length c) ∧ w'.cell? ⟨W7.heap.size, 0, none⟩ = some (.slice Aq rs.length cq) ∧ w'.cell? ⟨W7.heap.size + 1, 0, none⟩ = some (.int .i64 0) ∧ w'.cell? ⟨W7.heap.size + 1, 1, none⟩ = some (.int .i64 0) ∧ w'.cell? ⟨W9.heap.size + 1, 0, none⟩ = some (.int .i64 0) ∧ w'.cell? ⟨W9.heap.size + 1, 1, none⟩ = some (.int .i64 220) ∧ w'.cell? ⟨W9.heap.size + 1 + 1, 0, none⟩ = some (.int .i64 0) ∧ w'.cell? ⟨W9.heap.size + 1 + 1, 1, none⟩ = some (.int .i64 220) ∧ w'.cell? an = some (.int .i64 0) ∧ w'.cell? ⟨an.block, an.off + 1, none⟩ = some (.int .i64 220)) (ds := []) #[false, false, false, false, false, false, false, false, false, false, false, false, false, false, false, false, false, false, false, false, false, false, false, false, false, false, false, false, false, false, false, false, false, false, false, false, false] (by kernel_rfl) rfl rfl ⟨HF.out.1, HF.out.2.1, HF.out.2.2.1, HF.out.2.2.2.1, HF.out.2.2.2.2.1, HF.out.2.2.2.2.2.1, HF.out.2.2.2.2.2.2.1, HF.out.2.2.2.2.2.2.2.1, HF.out.2.2.2.2.2.2.2.2.1, HF.out.2.2.2.2.2.2.2.2.2.1, HF.out.2.2.2.2.2.2.2.2.2.2.1, HF.out.2.2.2.2.2.2.2.2.2.2.2.1, HF.out.2.2.2.2.2.2.2.2.2.2.2.2.1, HF.out.2.2.2.2.2.2.2.2.2.2.2.2.2.1, HF.out.2.2.2.2.2.2.2.2.2.2.2.2.2.2.1, HF.out.2.2.2.2.2.2.2.2.2.2.2.2.2.2.2.1, HF.out.2.2.2.2.2.2.2.2.2.2.2.2.2.2.2.2.1, HF.out.2.2.2.2.2.2.2.2.2.2.2.2.2.2.2.2.2.1, HF.out.2.2.2.2.2.2.2.2.2.2.2.2.2.2.2.2.2.2.1, HF.out.2.2.2.2.2.2.2.2.2.2.2.2.2.2.2.2.2.2.2.1, HF.out.2.2.2.2.2.2.2.2.2.2.2.2.2.2.2.2.2.2.2.2.1, HF.out.2.2.2.2.2.2.2.2.2.2.2.2.2.2.2.2.2.2.2.2.2.1, HF.out.2.2.2.2.2.2.2.2.2.2.2.2.2.2.2.2.2.2.2.2.2.2.1, HF.out.2.2.2.2.2.2.2.2.2.2.2.2.2.2.2.2.2.2.2.2.2.2.2.1, HF.out.2.2.2.2.2.2.2.2.2.2.2.2.2.2.2.2.2.2.2.2.2.2.2.2.1, HF.out.2.2.2.2.2.2.2.2.2.2.2.2.2.2.2.2.2.2.2.2.2.2.2.2.2⟩ (fun hHeld => ?_)
      refine pure_ (i := 0) (N := some 54) (v := ?_) (a' := ?_) #[true, false, false, false, false, false, false, false, false, false, false, false, false, false, false, false, false, false, false, false, false, false, false, false, false, false, false, false, false, false, false, false, false, false, false, false, false] rfl rfl (by kernel_rfl) (fun _ _ _ h => h) (Or.inl ⟨by rfl, ?_⟩) ?_ ?_
      rotate_left
      · intro w'
        go_simp
        with_reducible rfl
      rotate_left
      · simp only [Act.put, List.setIfInBounds_toArray, List.set_cons_zero, List.set_cons_succ, i64_w, i32_w]
        rfl
      refine pure_ (i := 1) (N := some 55) (v := ?_) (a' := ?_) #[true, true, false, false, false, false, false, false, false, false, false, false, false, false, false, false, false, false, false, false, false, false, false, false, false, false, false, false, false, false, false, false, false, false, false, false, false] rfl rfl (by kernel_rfl) (fun _ _ _ h => h) (Or.inl ⟨by rfl, ?_⟩) ?_ ?_
      rotate_left
      · intro w'
        go_simp
        with_reducible rfl
      rotate_left
      · simp only [Act.put, List.setIfInBounds_toArray, List.set_cons_zero, List.set_cons_succ, i64_w, i32_w]
        rfl
      refine pure_ (i := 2) (N := some 56) (v := ?_) (a' := ?_) #[true, true, true, false, false, false, false, false, false, false, false, false, false, false, false, false, false, false, false, false, false, false, false, false, false, false, false, false, false, false, false, false, false, false, false, false, false] rfl rfl (by kernel_rfl) (fun _ _ _ h => h) (Or.inl ⟨by rfl, ?_⟩) ?_ ?_
      rotate_left
      · intro w'
        go_simp
        with_reducible rfl
      rotate_left
      · simp only [Act.put, List.setIfInBounds_toArray, List.set_cons_zero, List.set_cons_succ, i64_w, i32_w]
        rfl
      refine pure_ (i := 3) (N := some 57) (v := ?_) (a' := ?_) #[true, true, true, true, false, false, false, false, false, false, false, false, false, false, false, false, false, false, false, false, false, false, false, false, false, false, false, false, false, false, false, false, false, false, false, false, false] rfl rfl (by kernel_rfl) (fun _ _ _ h => h) (Or.inl ⟨by rfl, ?_⟩) ?_ ?_
      rotate_left
      · intro w'
        go_simp
        with_reducible rfl
      rotate_left
      · simp only [Act.put, List.setIfInBounds_toArray, List.set_cons_zero, List.set_cons_succ, i64_w, i32_w]
        rfl
      refine take_ (i := 4) (N := some 58) (v := ?_) (a' := ?_) #[true, true, true, true, true, false, false, false, false, false, false, false, false, false, false, false, false, false, false, false, false, false, false, false, false, false, false, false, false, false, false, false, false, false, false, false, false] rfl rfl (by kernel_rfl) (fun _ _ _ h => h) (Or.inl ⟨by rfl, ?_⟩) hHeld ?_ ?_
      rotate_left
      · rintro w' ⟨s0, s1, s2, s3, s4, s5, s6, s7, s8, s9, s10, s11, s12, s13, s14, s15, s16, s17, s18, s19, s20, s21, s22, s23, s24, s25⟩
        go_simp
        with_reducible rfl
      rotate_left
      · simp only [Act.put, List.setIfInBounds_toArray, List.set_cons_zero, List.set_cons_succ, i64_w, i32_w]
        rfl
      refine take_ (i := 5) (N := some 59) (v := ?_) (a' := ?_) #[true, true, true, true, true, true, false, false, false, false, false, false, false, false, false, false, false, false, false, false, false, false, false, false, false, false, false, false, false, false, false, false, false, false, false, false, false] rfl rfl (by kernel_rfl) (fun _ _ _ h => h) (Or.inl ⟨by rfl, ?_⟩) hHeld ?_ ?_
      rotate_left
      · rintro w' ⟨s0, s1, s2, s3, s4, s5, s6, s7, s8, s9, s10, s11, s12, s13, s14, s15, s16, s17, s18, s19, s20, s21, s22, s23, s24, s25⟩
        go_simp
        with_reducible rfl
      rotate_left
      · simp only [Act.put, List.setIfInBounds_toArray, List.set_cons_zero, List.set_cons_succ, i64_w, i32_w]
        rfl
      refine one_ (i := 6) (N := some 60) #[true, true, true, true, true, true, true, false, false, false, false, false, false, false, false, false, false, false, false, false, false, false, false, false, false, false, false, false, false, false, false, false, false, false, false, false, false] rfl rfl (by kernel_rfl) (by decide) (fun K hK => ?_)
      have hH := hHeld
      refine goes_ Tryz.func21 (by kernel_rfl) rfl #[inV x (.slice A6 x.nodes.length c6) (.slice A7 x.mx.length c7)] (by rfl) rfl rfl (by simp only [List.map_toArray, List.map_cons, List.map_nil]; rfl) ?_
      with_reducible refine ((HN9.out _ (Below.refl _ _).drew)).mono ?_
      rintro e U1 ⟨u6, u7, rfl, hU6, hU7, bk⟩
      refine ⟨_, rfl, ?_⟩
      obtain ⟨Au, cu, eu, _, hCU6⟩ := Kd.R_reads hU6
      obtain ⟨Bu, du, eu7, _, hCU7⟩ := Kd.R_reads hU7
      subst eu
      subst eu7
      have HCU6 := Aside0.mk hCU6
      have HCU7 := Aside0.mk hCU7
      have HK1 := Aside0.mk ((Below.refl X9.heap.size X9).drew.trans bk)
      clear hU6 hU7 hCU6 hCU7
      refine hK.out _ _ ⟨(cb2 bk hH.1), (cb2 bk hH.2.1), (cb2 bk hH.2.2.1), (cb2 bk hH.2.2.2.1), (cb2 bk hH.2.2.2.2.1), (cb2 bk hH.2.2.2.2.2.1), (cb2 bk hH.2.2.2.2.2.2.1), (cb2 bk hH.2.2.2.2.2.2.2.1), (cb2 bk hH.2.2.2.2.2.2.2.2.1), (cb2 bk hH.2.2.2.2.2.2.2.2.2.1), (cb2 bk hH.2.2.2.2.2.2.2.2.2.2.1), (cb2 bk hH.2.2.2.2.2.2.2.2.2.2.2.1), (cb2 bk hH.2.2.2.2.2.2.2.2.2.2.2.2.1), (cb2 bk hH.2.2.2.2.2.2.2.2.2.2.2.2.2.1), (cb2 bk hH.2.2.2.2.2.2.2.2.2.2.2.2.2.2.1), (cb2 bk hH.2.2.2.2.2.2.2.2.2.2.2.2.2.2.2.1), (cb2 bk hH.2.2.2.2.2.2.2.2.2.2.2.2.2.2.2.2.1), (cb2 bk hH.2.2.2.2.2.2.2.2.2.2.2.2.2.2.2.2.2.1), (cb2 bk hH.2.2.2.2.2.2.2.2.2.2.2.2.2.2.2.2.2.2.1), (cb2 bk hH.2.2.2.2.2.2.2.2.2.2.2.2.2.2.2.2.2.2.2.1), (cb2 bk hH.2.2.2.2.2.2.2.2.2.2.2.2.2.2.2.2.2.2.2.2.1), (cb2 bk hH.2.2.2.2.2.2.2.2.2.2.2.2.2.2.2.2.2.2.2.2.2.1), (cb2 bk hH.2.2.2.2.2.2.2.2.2.2.2.2.2.2.2.2.2.2.2.2.2.2.1), (cb2 bk hH.2.2.2.2.2.2.2.2.2.2.2.2.2.2.2.2.2.2.2.2.2.2.2.1), (cb2 bk hH.2.2.2.2.2.2.2.2.2.2.2.2.2.2.2.2.2.2.2.2.2.2.2.2.1), (cb2 bk hH.2.2.2.2.2.2.2.2.2.2.2.2.2.2.2.2.2.2.2.2.2.2.2.2.2)⟩ (fun hHeld => ?_)
      clear hK K
      refine norm_ (a' := ?_) ?_ ?_
      rotate_left
      · show Act.put _ (some 60) _ = _
        simp only [Act.put, List.setIfInBounds_toArray, List.set_cons_zero, List.set_cons_succ, i64_w, i32_w]
        rfl
      refine one_ (i := 7) (N := some 61) #[true, true, true, true, true, true, true, true, false, false, false, false, false, false, false, false, false, false, false, false, false, false, false, false, false, false, false, false, false, false, false, false, false, false, false, false, false] rfl rfl (by kernel_rfl) (by decide) (fun K hK => ?_)
      have hH := hHeld
      refine goes_ Tryz.func20 (by kernel_rfl) rfl #[inV F (.slice Ay F.nodes.length cy) (.slice By F.mx.length dy), inV F (.slice Au F.nodes.length cu) (.slice Bu F.mx.length du)] (by rfl) rfl rfl (by simp only [List.map_toArray, List.map_cons, List.map_nil]; rfl) ?_
      with_reducible refine ((csame_walk F Ay By Au Bu cy dy cu du _ (Kd.C_below HY6.out HK1.out) (Kd.C_below HY7.out HK1.out) HCU6.out HCU7.out)).mono ?_
      rintro e U2 ⟨rfl, bk⟩
      refine ⟨_, rfl, ?_⟩
      have HK2 := Aside0.mk (HK1.out.trans (bk.mono HK1.out.size))
      refine hK.out _ _ ⟨(cb2 bk hH.1), (cb2 bk hH.2.1), (cb2 bk hH.2.2.1), (cb2 bk hH.2.2.2.1), (cb2 bk hH.2.2.2.2.1), (cb2 bk hH.2.2.2.2.2.1), (cb2 bk hH.2.2.2.2.2.2.1), (cb2 bk hH.2.2.2.2.2.2.2.1), (cb2 bk hH.2.2.2.2.2.2.2.2.1), (cb2 bk hH.2.2.2.2.2.2.2.2.2.1), (cb2 bk hH.2.2.2.2.2.2.2.2.2.2.1), (cb2 bk hH.2.2.2.2.2.2.2.2.2.2.2.1), (cb2 bk hH.2.2.2.2.2.2.2.2.2.2.2.2.1), (cb2 bk hH.2.2.2.2.2.2.2.2.2.2.2.2.2.1), (cb2 bk hH.2.2.2.2.2.2.2.2.2.2.2.2.2.2.1), (cb2 bk hH.2.2.2.2.2.2.2.2.2.2.2.2.2.2.2.1), (cb2 bk hH.2.2.2.2.2.2.2.2.2.2.2.2.2.2.2.2.1), (cb2 bk hH.2.2.2.2.2.2.2.2.2.2.2.2.2.2.2.2.2.1), (cb2 bk hH.2.2.2.2.2.2.2.2.2.2.2.2.2.2.2.2.2.2.1), (cb2 bk hH.2.2.2.2.2.2.2.2.2.2.2.2.2.2.2.2.2.2.2.1), (cb2 bk hH.2.2.2.2.2.2.2.2.2.2.2.2.2.2.2.2.2.2.2.2.1), (cb2 bk hH.2.2.2.2.2.2.2.2.2.2.2.2.2.2.2.2.2.2.2.2.2.1), (cb2 bk hH.2.2.2.2.2.2.2.2.2.2.2.2.2.2.2.2.2.2.2.2.2.2.1), (cb2 bk hH.2.2.2.2.2.2.2.2.2.2.2.2.2.2.2.2.2.2.2.2.2.2.2.1), (cb2 bk hH.2.2.2.2.2.2.2.2.2.2.2.2.2.2.2.2.2.2.2.2.2.2.2.2.1), (cb2 bk hH.2.2.2.2.2.2.2.2.2.2.2.2.2.2.2.2.2.2.2.2.2.2.2.2.2)⟩ (fun hHeld => ?_)
      clear hK K
      refine norm_ (a' := ?_) ?_ ?_
      rotate_left
      · show Act.put _ (some 61) _ = _
        simp only [Act.put, List.setIfInBounds_toArray, List.set_cons_zero, List.set_cons_succ, i64_w, i32_w]
        rfl
      refine pure_ (i := 8) (N := some 62) (v := ?_) (a' := ?_) #[true, true, true, true, true, true, true, true, true, false, false, false, false, false, false, false, false, false, false, false, false, false, false, false, false, false, false, false, false, false, false, false, false, false, false, false, false] rfl rfl (by kernel_rfl) (fun _ _ _ h => h) (Or.inl ⟨by rfl, ?_⟩) ?_ ?_
      rotate_left
      · intro w'
        go_simp
        with_reducible rfl
      rotate_left
      · simp only [Act.put, List.setIfInBounds_toArray, List.set_cons_zero, List.set_cons_succ, i64_w, i32_w]
        rfl
      refine pure_ (i := 9) (N := some 63) (v := ?_) (a' := ?_) #[true, true, true, true, true, true, true, true, true, true, false, false, false, false, false, false, false, false, false, false, false, false, false, false, false, false, false, false, false, false, false, false, false, false, false, false, false] rfl rfl (by kernel_rfl) (fun _ _ _ h => h) (Or.inl ⟨by rfl, ?_⟩) ?_ ?_
      rotate_left
      · intro w'
        go_simp
        with_reducible rfl
      rotate_left
      · simp only [Act.put, List.setIfInBounds_toArray, List.set_cons_zero, List.set_cons_succ, i64_w, i32_w]
        rfl
      refine pure_ (i := 11) (N := some 65) (v := ?_) (a' := ?_) #[true, true, true, true, true, true, true, true, true, true, false, true, false, false, false, false, false, false, false, false, false, false, false, false, false, false, false, false, false, false, false, false, false, false, false, false, false] rfl rfl (by kernel_rfl) (fun _ _ _ h => h) (Or.inl ⟨by rfl, ?_⟩) ?_ ?_
      rotate_left
      · intro w'
        go_simp
        with_reducible rfl
      rotate_left
      · simp only [Act.put, List.setIfInBounds_toArray, List.set_cons_zero, List.set_cons_succ, i64_w, i32_w]
        rfl
      refine take_ (i := 10) (N := some 64) (v := ?_) (a' := ?_) #[true, true, true, true, true, true, true, true, true, true, true, true, false, false, false, false, false, false, false, false, false, false, false, false, false, false, false, false, false, false, false, false, false, false, false, false, false] rfl rfl (by kernel_rfl) (fun _ _ _ h => h) (Or.inl ⟨by rfl, ?_⟩) hHeld ?_ ?_
      rotate_left
      · rintro w' ⟨s0, s1, s2, s3, s4, s5, s6, s7, s8, s9, s10, s11, s12, s13, s14, s15, s16, s17, s18, s19, s20, s21, s22, s23, s24, s25⟩
        go_simp
        with_reducible rfl
      rotate_left
      · simp only [Act.put, List.setIfInBounds_toArray, List.set_cons_zero, List.set_cons_succ, i64_w, i32_w]
        rfl
      refine pure_ (i := 12) (N := some 66) (v := ?_) (a' := ?_) #[true, true, true, true, true, true, true, true, true, true, true, true, true, false, false, false, false, false, false, false, false, false, false, false, false, false, false, false, false, false, false, false, false, false, false, false, false] rfl rfl (by kernel_rfl) (fun _ _ _ h => h) (Or.inl ⟨by rfl, ?_⟩) ?_ ?_
      rotate_left
      · intro w'
        go_simp
        with_reducible rfl
      rotate_left
      · simp only [Act.put, List.setIfInBounds_toArray, List.set_cons_zero, List.set_cons_succ, i64_w, i32_w]
        rfl
      refine pure_ (i := 13) (N := some 67) (v := ?_) (a' := ?_) #[true, true, true, true, true, true, true, true, true, true, true, true, true, true, false, false, false, false, false, false, false, false, false, false, false, false, false, false, false, false, false, false, false, false, false, false, false] rfl rfl (by kernel_rfl) (fun _ _ _ h => h) (Or.inl ⟨by rfl, ?_⟩) ?_ ?_
      rotate_left
      · intro w'
        go_simp
        with_reducible rfl
      rotate_left
      · simp only [Act.put, List.setIfInBounds_toArray, List.set_cons_zero, List.set_cons_succ, i64_w, i32_w]
        rfl
      refine pure_ (i := 14) (N := some 68) (v := ?_) (a' := ?_) #[true, true, true, true, true, true, true, true, true, true, true, true, true, true, true, false, false, false, false, false, false, false, false, false, false, false, false, false, false, false, false, false, false, false, false, false, false] rfl rfl (by kernel_rfl) (fun _ _ _ h => h) (Or.inl ⟨by rfl, ?_⟩) ?_ ?_
      rotate_left
      · intro w'
        go_simp
        with_reducible rfl
      rotate_left
      · simp only [Act.put, List.setIfInBounds_toArray, List.set_cons_zero, List.set_cons_succ, i64_w, i32_w]
        rfl
      refine take_ (i := 15) (N := some 69) (v := ?_) (a' := ?_) #[true, true, true, true, true, true, true, true, true, true, true, true, true, true, true, true, false, false, false, false, false, false, false, false, false, false, false, false, false, false, false, false, false, false, false, false, false] rfl rfl (by kernel_rfl) (fun _ _ _ h => h) (Or.inl ⟨by rfl, ?_⟩) hHeld ?_ ?_
      rotate_left
      · rintro w' ⟨s0, s1, s2, s3, s4, s5, s6, s7, s8, s9, s10, s11, s12, s13, s14, s15, s16, s17, s18, s19, s20, s21, s22, s23, s24, s25⟩
        go_simp
        with_reducible rfl
      rotate_left
      · simp only [Act.put, List.setIfInBounds_toArray, List.set_cons_zero, List.set_cons_succ, i64_w, i32_w]
        rfl
      refine take_ (i := 16) (N := some 70) (v := ?_) (a' := ?_) #[true, true, true, true, true, true, true, true, true, true, true, true, true, true, true, true, true, false, false, false, false, false, false, false, false, false, false, false, false, false, false, false, false, false, false, false, false] rfl rfl (by kernel_rfl) (fun _ _ _ h => h) (Or.inl ⟨by rfl, ?_⟩) hHeld ?_ ?_
      rotate_left
      · rintro w' ⟨s0, s1, s2, s3, s4, s5, s6, s7, s8, s9, s10, s11, s12, s13, s14, s15, s16, s17, s18, s19, s20, s21, s22, s23, s24, s25⟩
        go_simp
        with_reducible rfl
      rotate_left
      · simp only [Act.put, List.setIfInBounds_toArray, List.set_cons_zero, List.set_cons_succ, i64_w, i32_w]
        rfl
      refine one_ (i := 17) (N := some 71) #[true, true, true, true, true, true, true, true, true, true, true, true, true, true, true, true, true, true, false, false, false, false, false, false, false, false, false, false, false, false, false, false, false, false, false, false, false] rfl rfl (by kernel_rfl) (by decide) (fun K hK => ?_)
      have hH := hHeld
      refine goes_ Tryz.func22 (by kernel_rfl) rfl #[.agg #[.slice A rs.length c], .agg #[.slice Aq rs.length cq]] (by rfl) rfl rfl (by simp only [List.map_toArray, List.map_cons, List.map_nil]; rfl) ?_
      with_reducible refine ((psame_walk A Aq c cq rs _ (Kd.C_below HC3.out HK2.out) (Kd.C_below HCQ.out HK2.out))).mono ?_
      rintro e U3 ⟨rfl, bk⟩
      refine ⟨_, rfl, ?_⟩
      have HK3 := Aside0.mk (HK2.out.trans (bk.mono HK2.out.size))
      refine hK.out _ _ ⟨(cb2 bk hH.1), (cb2 bk hH.2.1), (cb2 bk hH.2.2.1), (cb2 bk hH.2.2.2.1), (cb2 bk hH.2.2.2.2.1), (cb2 bk hH.2.2.2.2.2.1), (cb2 bk hH.2.2.2.2.2.2.1), (cb2 bk hH.2.2.2.2.2.2.2.1), (cb2 bk hH.2.2.2.2.2.2.2.2.1), (cb2 bk hH.2.2.2.2.2.2.2.2.2.1), (cb2 bk hH.2.2.2.2.2.2.2.2.2.2.1), (cb2 bk hH.2.2.2.2.2.2.2.2.2.2.2.1), (cb2 bk hH.2.2.2.2.2.2.2.2.2.2.2.2.1), (cb2 bk hH.2.2.2.2.2.2.2.2.2.2.2.2.2.1), (cb2 bk hH.2.2.2.2.2.2.2.2.2.2.2.2.2.2.1), (cb2 bk hH.2.2.2.2.2.2.2.2.2.2.2.2.2.2.2.1), (cb2 bk hH.2.2.2.2.2.2.2.2.2.2.2.2.2.2.2.2.1), (cb2 bk hH.2.2.2.2.2.2.2.2.2.2.2.2.2.2.2.2.2.1), (cb2 bk hH.2.2.2.2.2.2.2.2.2.2.2.2.2.2.2.2.2.2.1), (cb2 bk hH.2.2.2.2.2.2.2.2.2.2.2.2.2.2.2.2.2.2.2.1), (cb2 bk hH.2.2.2.2.2.2.2.2.2.2.2.2.2.2.2.2.2.2.2.2.1), (cb2 bk hH.2.2.2.2.2.2.2.2.2.2.2.2.2.2.2.2.2.2.2.2.2.1), (cb2 bk hH.2.2.2.2.2.2.2.2.2.2.2.2.2.2.2.2.2.2.2.2.2.2.1), (cb2 bk hH.2.2.2.2.2.2.2.2.2.2.2.2.2.2.2.2.2.2.2.2.2.2.2.1), (cb2 bk hH.2.2.2.2.2.2.2.2.2.2.2.2.2.2.2.2.2.2.2.2.2.2.2.2.1), (cb2 bk hH.2.2.2.2.2.2.2.2.2.2.2.2.2.2.2.2.2.2.2.2.2.2.2.2.2)⟩ (fun hHeld => ?_)
      clear hK K
      refine norm_ (a' := ?_) ?_ ?_
      rotate_left
      · show Act.put _ (some 71) _ = _
        simp only [Act.put, List.setIfInBounds_toArray, List.set_cons_zero, List.set_cons_succ, i64_w, i32_w]
        rfl
      refine pure_ (i := 18) (N := some 72) (v := ?_) (a' := ?_) #[true, true, true, true, true, true, true, true, true, true, true, true, true, true, true, true, true, true, true, false, false, false, false, false, false, false, false, false, false, false, false, false, false, false, false, false, false] rfl rfl (by kernel_rfl) (fun _ _ _ h => h) (Or.inl ⟨by rfl, ?_⟩) ?_ ?_
      rotate_left
      · intro w'
        go_simp
        with_reducible rfl
      rotate_left
      · simp only [Act.put, List.setIfInBounds_toArray, List.set_cons_zero, List.set_cons_succ, i64_w, i32_w]
        rfl
      refine pure_ (i := 19) (N := some 73) (v := ?_) (a' := ?_) #[true, true, true, true, true, true, true, true, true, true, true, true, true, true, true, true, true, true, true, true, false, false, false, false, false, false, false, false, false, false, false, false, false, false, false, false, false] rfl rfl (by kernel_rfl) (fun _ _ _ h => h) (Or.inl ⟨by rfl, ?_⟩) ?_ ?_
      rotate_left
      · intro w'
        go_simp
        with_reducible rfl
      rotate_left
      · simp only [Act.put, List.setIfInBounds_toArray, List.set_cons_zero, List.set_cons_succ, i64_w, i32_w]
        rfl
      refine pure_ (i := 20) (N := some 74) (v := ?_) (a' := ?_) #[true, true, true, true, true, true, true, true, true, true, true, true, true, true, true, true, true, true, true, true, true, false, false, false, false, false, false, false, false, false, false, false, false, false, false, false, false] rfl rfl (by kernel_rfl) (fun _ _ _ h => h) (Or.inl ⟨by rfl, ?_⟩) ?_ ?_
      rotate_left
      · intro w'
        go_simp
        with_reducible rfl
      rotate_left
      · simp only [Act.put, List.setIfInBounds_toArray, List.set_cons_zero, List.set_cons_succ, i64_w, i32_w]
        rfl
      refine pure_ (i := 21) (N := some 75) (v := ?_) (a' := ?_) #[true, true, true, true, true, true, true, true, true, true, true, true, true, true, true, true, true, true, true, true, true, true, false, false, false, false, false, false, false, false, false, false, false, false, false, false, false] rfl rfl (by kernel_rfl) (fun _ _ _ h => h) (Or.inl ⟨by rfl, ?_⟩) ?_ ?_
      rotate_left
      · intro w'
        go_simp
        with_reducible rfl
      rotate_left
      · simp only [Act.put, List.setIfInBounds_toArray, List.set_cons_zero, List.set_cons_succ, i64_w, i32_w]
        rfl
      refine pure_ (i := 22) (N := some 76) (v := ?_) (a' := ?_) #[true, true, true, true, true, true, true, true, true, true, true, true, true, true, true, true, true, true, true, true, true, true, true, false, false, false, false, false, false, false, false, false, false, false, false, false, false] rfl rfl (by kernel_rfl) (fun _ _ _ h => h) (Or.inl ⟨by rfl, ?_⟩) ?_ ?_
      rotate_left
      · intro w'
        go_simp
        with_reducible rfl
      rotate_left
      · simp only [Act.put, List.setIfInBounds_toArray, List.set_cons_zero, List.set_cons_succ, i64_w, i32_w]
        rfl
      refine pure_ (i := 23) (N := some 77) (v := ?_) (a' := ?_) #[true, true, true, true, true, true, true, true, true, true, true, true, true, true, true, true, true, true, true, true, true, true, true, true, false, false, false, false, false, false, false, false, false, false, false, false, false] rfl rfl (by kernel_rfl) (fun _ _ _ h => h) (Or.inl ⟨by rfl, ?_⟩) ?_ ?_
      rotate_left
      · intro w'
        go_simp
        with_reducible rfl
      rotate_left
      · simp only [Act.put, List.setIfInBounds_toArray, List.set_cons_zero, List.set_cons_succ, i64_w, i32_w]
        rfl
      refine pure_ (i := 24) (N := some 78) (v := ?_) (a' := ?_) #[true, true, true, true, true, true, true, true, true, true, true, true, true, true, true, true, true, true, true, true, true, true, true, true, true, false, false, false, false, false, false, false, false, false, false, false, false] rfl rfl (by kernel_rfl) (fun _ _ _ h => h) (Or.inl ⟨by rfl, ?_⟩) ?_ ?_
      rotate_left
      · intro w'
        go_simp
        with_reducible rfl
      rotate_left
      · simp only [Act.put, List.setIfInBounds_toArray, List.set_cons_zero, List.set_cons_succ, i64_w, i32_w]
        rfl
      refine pure_ (i := 25) (N := some 79) (v := ?_) (a' := ?_) #[true, true, true, true, true, true, true, true, true, true, true, true, true, true, true, true, true, true, true, true, true, true, true, true, true, true, false, false, false, false, false, false, false, false, false, false, false] rfl rfl (by kernel_rfl) (fun _ _ _ h => h) (Or.inl ⟨by rfl, ?_⟩) ?_ ?_
      rotate_left
      · intro w'
        go_simp
        with_reducible rfl
      rotate_left
      · simp only [Act.put, List.setIfInBounds_toArray, List.set_cons_zero, List.set_cons_succ, i64_w, i32_w]
        rfl
      refine pure_ (i := 26) (N := some 80) (v := ?_) (a' := ?_) #[true, true, true, true, true, true, true, true, true, true, true, true, true, true, true, true, true, true, true, true, true, true, true, true, true, true, true, false, false, false, false, false, false, false, false, false, false] rfl rfl (by kernel_rfl) (fun _ _ _ h => h) (Or.inl ⟨by rfl, ?_⟩) ?_ ?_
      rotate_left
      · intro w'
        go_simp
        with_reducible rfl
      rotate_left
      · simp only [Act.put, List.setIfInBounds_toArray, List.set_cons_zero, List.set_cons_succ, i64_w, i32_w]
        rfl
      refine take_ (i := 27) (N := some 81) (v := ?_) (a' := ?_) #[true, true, true, true, true, true, true, true, true, true, true, true, true, true, true, true, true, true, true, true, true, true, true, true, true, true, true, true, false, false, false, false, false, false, false, false, false] rfl rfl (by kernel_rfl) (fun _ _ _ h => h) (Or.inl ⟨by rfl, ?_⟩) hHeld ?_ ?_
      rotate_left
      · rintro w' ⟨s0, s1, s2, s3, s4, s5, s6, s7, s8, s9, s10, s11, s12, s13, s14, s15, s16, s17, s18, s19, s20, s21, s22, s23, s24, s25⟩
        go_simp
        with_reducible rfl
      rotate_left
      · simp only [Act.put, List.setIfInBounds_toArray, List.set_cons_zero, List.set_cons_succ, i64_w, i32_w]
        rfl
      refine take_ (i := 28) (N := some 82) (v := ?_) (a' := ?_) #[true, true, true, true, true, true, true, true, true, true, true, true, true, true, true, true, true, true, true, true, true, true, true, true, true, true, true, true, true, false, false, false, false, false, false, false, false] rfl rfl (by kernel_rfl) (fun _ _ _ h => h) (Or.inl ⟨by rfl, ?_⟩) hHeld ?_ ?_
      rotate_left
      · rintro w' ⟨s0, s1, s2, s3, s4, s5, s6, s7, s8, s9, s10, s11, s12, s13, s14, s15, s16, s17, s18, s19, s20, s21, s22, s23, s24, s25⟩
        go_simp
        with_reducible rfl
      rotate_left
      · simp only [Act.put, List.setIfInBounds_toArray, List.set_cons_zero, List.set_cons_succ, i64_w, i32_w]
        rfl
      refine pure_ (i := 29) (N := some 83) (v := ?_) (a' := ?_) #[true, true, true, true, true, true, true, true, true, true, true, true, true, true, true, true, true, true, true, true, true, true, true, true, true, true, true, true, true, true, false, false, false, false, false, false, false] rfl rfl (by kernel_rfl) (fun _ _ _ h => h) (Or.inl ⟨by rfl, ?_⟩) ?_ ?_
      rotate_left
      · intro w'
        go_simp
        with_reducible rfl
      rotate_left
      · simp only [Act.put, List.setIfInBounds_toArray, List.set_cons_zero, List.set_cons_succ, i64_w, i32_w]
        rfl
      refine pure_ (i := 30) (N := some 84) (v := ?_) (a' := ?_) #[true, true, true, true, true, true, true, true, true, true, true, true, true, true, true, true, true, true, true, true, true, true, true, true, true, true, true, true, true, true, true, false, false, false, false, false, false] rfl rfl (by kernel_rfl) (fun _ _ _ h => h) (Or.inl ⟨by rfl, ?_⟩) ?_ ?_
      rotate_left
      · intro w'
        go_simp
        with_reducible rfl
      rotate_left
      · simp only [Act.put, List.setIfInBounds_toArray, List.set_cons_zero, List.set_cons_succ, i64_w, i32_w]
        rfl
      refine pure_ (i := 31) (N := some 85) (v := ?_) (a' := ?_) #[true, true, true, true, true, true, true, true, true, true, true, true, true, true, true, true, true, true, true, true, true, true, true, true, true, true, true, true, true, true, true, true, false, false, false, false, false] rfl rfl (by kernel_rfl) (fun _ _ _ h => h) (Or.inl ⟨by rfl, ?_⟩) ?_ ?_
      rotate_left
      · intro w'
        go_simp
        with_reducible rfl
      rotate_left
      · simp only [Act.put, List.setIfInBounds_toArray, List.set_cons_zero, List.set_cons_succ, i64_w, i32_w]
        rfl
      refine take_ (i := 32) (N := some 86) (v := ?_) (a' := ?_) #[true, true, true, true, true, true, true, true, true, true, true, true, true, true, true, true, true, true, true, true, true, true, true, true, true, true, true, true, true, true, true, true, true, false, false, false, false] rfl rfl (by kernel_rfl) (fun _ _ _ h => h) (Or.inl ⟨by rfl, ?_⟩) hHeld ?_ ?_
      rotate_left
      · rintro w' ⟨s0, s1, s2, s3, s4, s5, s6, s7, s8, s9, s10, s11, s12, s13, s14, s15, s16, s17, s18, s19, s20, s21, s22, s23, s24, s25⟩
        go_simp
        with_reducible rfl
      rotate_left
      · simp only [Act.put, List.setIfInBounds_toArray, List.set_cons_zero, List.set_cons_succ, i64_w, i32_w]
        rfl
      refine take_ (i := 33) (N := some 87) (v := ?_) (a' := ?_) #[true, true, true, true, true, true, true, true, true, true, true, true, true, true, true, true, true, true, true, true, true, true, true, true, true, true, true, true, true, true, true, true, true, true, false, false, false] rfl rfl (by kernel_rfl) (fun _ _ _ h => h) (Or.inl ⟨by rfl, ?_⟩) hHeld ?_ ?_
      rotate_left
      · rintro w' ⟨s0, s1, s2, s3, s4, s5, s6, s7, s8, s9, s10, s11, s12, s13, s14, s15, s16, s17, s18, s19, s20, s21, s22, s23, s24, s25⟩
        go_simp
        with_reducible rfl
      rotate_left
      · simp only [Act.put, List.setIfInBounds_toArray, List.set_cons_zero, List.set_cons_succ, i64_w, i32_w]
        rfl
      refine pure_ (i := 34) (N := some 88) (v := ?_) (a' := ?_) #[true, true, true, true, true, true, true, true, true, true, true, true, true, true, true, true, true, true, true, true, true, true, true, true, true, true, true, true, true, true, true, true, true, true, true, false, false] rfl rfl (by kernel_rfl) (fun _ _ _ h => h) (Or.inl ⟨by rfl, ?_⟩) ?_ ?_
      rotate_left
      · intro w'
        go_simp
        with_reducible rfl
      rotate_left
      · simp only [Act.put, List.setIfInBounds_toArray, List.set_cons_zero, List.set_cons_succ, i64_w, i32_w]
        rfl
      refine pure_ (i := 35) (N := some 89) (v := ?_) (a' := ?_) #[true, true, true, true, true, true, true, true, true, true, true, true, true, true, true, true, true, true, true, true, true, true, true, true, true, true, true, true, true, true, true, true, true, true, true, true, false] rfl rfl (by kernel_rfl) (fun _ _ _ h => h) (Or.inl ⟨by rfl, ?_⟩) ?_ ?_
      rotate_left
      · intro w'
        go_simp
        with_reducible rfl
      rotate_left
      · simp only [Act.put, List.setIfInBounds_toArray, List.set_cons_zero, List.set_cons_succ, i64_w, i32_w]
        rfl
      refine pure_ (i := 36) (N := some 4) (v := ?_) (a' := ?_) #[true, true, true, true, true, true, true, true, true, true, true, true, true, true, true, true, true, true, true, true, true, true, true, true, true, true, true, true, true, true, true, true, true, true, true, true, true] rfl rfl (by kernel_rfl) (fun _ _ _ h => h) (Or.inl ⟨by rfl, ?_⟩) ?_ ?_
      rotate_left
      · intro w'
        go_simp
        with_reducible rfl
      rotate_left
      · simp only [Act.put, List.setIfInBounds_toArray, List.set_cons_zero, List.set_cons_succ, i64_w, i32_w]
        rfl
      refine done_ (by kernel_rfl) ?_
      go_wp2_with fail
      go_ret
      exact ⟨by first | rfl | simp, HBW.out.trans (HK3.out.mono HBW.out.size)⟩
end Go.Proofs.YtofklpphalalhaaGreatDoor
