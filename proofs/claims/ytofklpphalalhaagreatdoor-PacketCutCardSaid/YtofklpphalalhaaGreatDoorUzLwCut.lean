/- packet's law PacketCut, walked by hand. Conditions: the sums' table lies as listed; at is a uint16, more a uint8. -/
import Derived.Test.YtofklpphalalhaaGreatDoorUzLwA
import Derived.Test.YtofklpphalalhaaGreatDoorUzJ26
namespace Go.Proofs.YtofklpphalalhaaGreatDoor
set_option linter.unusedVariables false
set_option linter.unusedSimpArgs false
open Go.RowKit Go.Proofs.YtofklpphalalhaaGreatDoor.PAll Go.Proofs.YtofklpphalalhaaGreatDoorW.PrintWords Go.Proofs.YtofklpphalalhaaGreatDoorW.PrintLast Go.Proofs.YtofklpphalalhaaGreatDoorW.PrintMore
set_option maxRecDepth 100000 in
set_option maxHeartbeats 32000000 in
theorem cut_walk (x : Cn.In) (A6 A7 : Option Addr) (c6 c7 : Nat) (rs : List (List Int)) (A : Option Addr) (c : Nat) (i0 m0 : Int) (hi : 0 ≤ i0 ∧ i0 < 65536) (hm : 0 ≤ m0 ∧ m0 < 256) (w : World) (HT : Tab w) (ho : ∀ d ∈ x.nodes, NodeOk d) (hc7 : x.mx.length ≤ c7) (hcc : rs.length ≤ c) (hC6 : Kd.C k71 w A6 x.nodes.length x.nodes) (hC7 : Kd.C (Kd.int .i64) w A7 x.mx.length x.mx) (hC : Kd.C kRow w A rs.length rs) :
    Calls Tryz.prog 8 #[inV x (.slice A6 x.nodes.length c6) (.slice A7 x.mx.length c7), .agg #[.slice A rs.length c], .int .u16 i0, .int .u8 m0] w fun e w' => e = .returned (.bool true) ∧ Below w.heap.size w w' := by
  obtain ⟨V, hV⟩ : ∃ V, V = (w.alloc (inB x (.slice A6 x.nodes.length c6) (.slice A7 x.mx.length c7))).alloc (.cells #[.slice A rs.length c] 28) := ⟨_, rfl⟩
  have hb := below_two w (inB x (.slice A6 x.nodes.length c6) (.slice A7 x.mx.length c7)) (.cells #[.slice A rs.length c] 28)
  have htb := two_blocks w (inB x (.slice A6 x.nodes.length c6) (.slice A7 x.mx.length c7)) (.cells #[.slice A rs.length c] 28)
  rw [← hV] at hb htb
  have hsV : V.heap.size = w.heap.size + 2 := by rw [hV]; simp
  have hT := HT.below hb
  obtain ⟨sm, hsm, hS⟩ := small_walk rs
  obtain ⟨bw, hbw⟩ : ∃ b, wl x = b := ⟨_, rfl⟩
  have hw := well22_walk x A6 A7 c6 c7 V ho hc7 (Kd.C_below hC6 hb) (Kd.C_below hC7 hb)
  rw [hbw, hV] at hw
  have HW := Aside0.mk hw
  have HV := Aside0.mk hV
  have HB := Aside0.mk hb
  have HC6 := Aside0.mk (Kd.C_below hC6 hb)
  have HC7 := Aside0.mk (Kd.C_below hC7 hb)
  have HC := Aside0.mk (Kd.C_below hC hb)
  have HTB := Aside0.mk htb
  have HSV := Aside0.mk hsV
  have HTV := Aside0.mk hT
  have HS := Aside0.mk hS
  have HSM := Aside0.mk hsm
  have HBW := Aside0.mk hbw
  clear hw hV hb htb hsV hT hS hC6 hC7 hC HT hsm hbw
  cases bw with
  | false =>
    go_enter Tryz.func8, Tryz.ntmps8
    go_wp2_with fail
    refine HW.out.mono ?_
    rintro e W1 ⟨rfl, b1⟩
    rw [← HV.out] at b1
    have HSH := Aside0.mk (shown22_walk W1 (HTV.out.below b1))
    have HB1 := Aside0.mk (HB.out.trans (b1.mono HB.out.size))
    clear b1 HW
    go_wp2_with fail
    refine HSH.out.mono ?_
    rintro e W2 ⟨rfl, b2⟩
    have HB2 := Aside0.mk (HB1.out.trans (b2.mono HB1.out.size))
    clear b2 HSH
    go_wp2_with fail
    go_ret
    exact ⟨rfl, HB2.out⟩
  | true =>
    have HWL := Aside0.mk (wl_tells x ho HBW.out)
    cases sm with
    | false =>
      go_enter Tryz.func8, Tryz.ntmps8
      go_wp2_with fail
      refine HW.out.mono ?_
      rintro e W1 ⟨rfl, b1⟩
      rw [← HV.out] at b1
      have p1 : W1.cell? ⟨w.heap.size + 1, 0, none⟩ = some (.slice A rs.length c) := by
        rw [Lib.cell_of_heap ((b1.block _ (by rw [HSV.out]; omega)).trans HTB.out.2)]; rfl
      have HS1 := Aside0.mk (HS.out A c W1 (Kd.C_below HC.out b1) hcc)
      have HT1 := Aside0.mk (HTV.out.below b1)
      have HB1 := Aside0.mk (HB.out.trans (b1.mono HB.out.size))
      clear b1 HW
      go_wp2_with fail
      refine HS1.out.mono ?_
      rintro e W2 ⟨rfl, b2⟩
      have HSH := Aside0.mk (shown22_walk W2 (HT1.out.below b2))
      have HB2 := Aside0.mk (HB1.out.trans (b2.mono HB1.out.size))
      clear b2 HS1 p1
      go_wp2_with fail
      refine HSH.out.mono ?_
      rintro e W3 ⟨rfl, b3⟩
      have HB3 := Aside0.mk (HB2.out.trans (b3.mono HB2.out.size))
      clear b3 HSH
      go_wp2_with fail
      go_ret
      exact ⟨rfl, HB3.out⟩
    | true =>
      have HOK := Aside0.mk (HSM.out rfl)
      go_enter Tryz.func8, Tryz.ntmps8
      go_wp2_with fail
      refine HW.out.mono ?_
      rintro e W1 ⟨rfl, b1⟩
      rw [← HV.out] at b1
      have p1 : W1.cell? ⟨w.heap.size + 1, 0, none⟩ = some (.slice A rs.length c) := by
        rw [Lib.cell_of_heap ((b1.block _ (by rw [HSV.out]; omega)).trans HTB.out.2)]; rfl
      have HS1 := Aside0.mk (HS.out A c W1 (Kd.C_below HC.out b1) hcc)
      have HT1 := Aside0.mk (HTV.out.below b1)
      have HB1 := Aside0.mk b1
      clear b1 HW
      go_wp2_with fail
      refine HS1.out.mono ?_
      rintro e W2 ⟨rfl, b2⟩
      have HSH := Aside0.mk (shown22_walk W2 (HT1.out.below b2))
      have HT2 := Aside0.mk (HT1.out.below b2)
      have HB2 := Aside0.mk (HB1.out.trans (b2.mono HB1.out.size))
      clear b2 HS1 p1 HT1 HB1
      go_wp2_with fail
      refine HSH.out.mono ?_
      rintro e W3 ⟨rfl, b3⟩
      have hT3 := HT2.out.below b3
      have hb3 := HB2.out.trans (b3.mono HB2.out.size)
      clear HSH HT2 HB2 b3
      have q0 := (hb3.block _ (by rw [HSV.out]; omega)).trans HTB.out.1
      have q1 := (hb3.block _ (by rw [HSV.out]; omega)).trans HTB.out.2
      have HQ0 := Aside0.mk q0
      have HQ1 := Aside0.mk q1
      have HC63 := Aside0.mk (Kd.C_below HC6.out hb3)
      have HC73 := Aside0.mk (Kd.C_below HC7.out hb3)
      have HC3 := Aside0.mk (Kd.C_below HC.out hb3)
      have HB3 := Aside0.mk (HB.out.trans (hb3.mono HB.out.size))
      have HT3 := Aside0.mk hT3
      obtain ⟨x0, x1, x2, x3, x4, x5, x6, x7⟩ := box_cells q0
      clear q0 q1 HV HB HC6 HC7 HC HTB HSV HTV HS HSM HBW hb3 hT3
      obtain ⟨sx, hsx⟩ : ∃ s, Evs.S (Pk.shut (Pp.inst x)) = s := ⟨_, rfl⟩
      obtain ⟨sp, hsp⟩ : ∃ s, Evs.S (Pk.shut (Pp.plan rs)) = s := ⟨_, rfl⟩
      have hput := put_walk x A6 A7 c6 c7 W3 HT3.out (by have := HWL.out.ln; omega) (by have := HWL.out.l6; omega) (by have := HWL.out.l7; omega) HC63.out HC73.out
      rw [hsx] at hput
      have HPUT := Aside0.mk hput
      have HSX := Aside0.mk hsx
      have HSP := Aside0.mk hsp
      clear hput hsx hsp
      go_wp2_with fail
      refine HPUT.out.mono ?_
      rintro e W4 ⟨rfl, b4⟩
      have hpp := putPlan_walk rs A c W4 (HT3.out.below b4) (by have := HOK.out.1; omega) (by have := HOK.out.2.1; omega) (Kd.C_below HC3.out b4)
      rw [HSP.out] at hpp
      have HPP := Aside0.mk hpp
      have p1 : W4.cell? ⟨w.heap.size + 1, 0, none⟩ = some (.slice A rs.length c) := by
        rw [Lib.cell_of_heap ((b4.block _ (Array.getElem?_eq_some_iff.1 HQ1.out).1).trans HQ1.out)]; rfl
      have HT4 := Aside0.mk (HT3.out.below b4)
      have HB4 := Aside0.mk b4
      clear hpp b4 HPUT x0 x1 x2 x3 x4 x5 x6 x7
      go_wp2_with fail
      refine HPP.out.mono ?_
      rintro e W5 ⟨rfl, b5⟩
      have HT5 := Aside0.mk (HT4.out.below b5)
      have HB5 := Aside0.mk (HB4.out.trans (b5.mono HB4.out.size))
      clear b5 HPP p1 HT4 HB4
      obtain ⟨tx, htx⟩ : ∃ s, Evs.S (Pp.inst x) = s := ⟨_, rfl⟩
      obtain ⟨tp, htp⟩ : ∃ s, Evs.S (Pp.plan rs) = s := ⟨_, rfl⟩
      have hx8 : sx.size = (Pp.inst x).length + 4 := by rw [← HSX.out, Evs.S_size, Pk.shut_len]
      have hp8 : sp.size = (Pp.plan rs).length + 4 := by rw [← HSP.out, Evs.S_size, Pk.shut_len]
      have hlx := HWL.out.len
      have hlp := ok_len HOK.out
      have hix := Rr.inst_len x
      have hip := Rr.plan_len rs
      obtain ⟨lx, hlxe⟩ : ∃ n, (Pp.inst x).length = n := ⟨_, rfl⟩
      obtain ⟨lp, hlpe⟩ : ∃ n, (Pp.plan rs).length = n := ⟨_, rfl⟩
      rw [hlxe] at hx8 hlx hix
      rw [hlpe] at hp8 hlp hip
      have g1 : tx.size = lx := by rw [← htx, Evs.S_size, hlxe]
      have g2 : tp.size = lp := by rw [← htp, Evs.S_size, hlpe]
      have g3 : sx.extract 0 lx = tx := by rw [← HSX.out, ext_take, ← htx, ← hlxe]; exact congrArg Evs.S (shut_take _)
      have g4 : sp.extract 0 lp = tp := by rw [← HSP.out, ext_take, ← htp, ← hlpe]; exact congrArg Evs.S (shut_take _)
      obtain ⟨kx, hkx⟩ : ∃ k : Nat, (k : Int) = i0 % (lx : Int) := ⟨(i0 % (lx : Int)).toNat, by have := Int.emod_nonneg i0 (by omega : (lx : Int) ≠ 0); omega⟩
      obtain ⟨kp, hkp⟩ : ∃ k : Nat, (k : Int) = i0 % (lp : Int) := ⟨(i0 % (lp : Int)).toNat, by have := Int.emod_nonneg i0 (by omega : (lp : Int) ≠ 0); omega⟩
      have hkx1 : kx < lx := by have := Int.emod_lt_of_pos i0 (by omega : (0 : Int) < lx); omega
      have hkp1 : kp < lp := by have := Int.emod_lt_of_pos i0 (by omega : (0 : Int) < lp); omega
      obtain ⟨p1, c1, hc1, hp10, hp11, hcc1⟩ := Rr.get_cut x HWL.out.p kx (by rw [hlxe]; exact hkx1)
      obtain ⟨p2, c2, hc2, hp20, hp21, hcc2⟩ := Rr.getPlan_cut rs (ok_rows HOK.out) (by have := HOK.out.1; omega) kp (by rw [hlpe]; exact hkp1)
      have g5 : tx.extract 0 kx = Evs.S ((Pp.inst x).take kx) := by rw [← htx, ext_take]
      have g6 : tp.extract 0 kp = Evs.S ((Pp.plan rs).take kp) := by rw [← htp, ext_take]
      obtain ⟨ux, hux⟩ : ∃ s, Evs.S ((Pp.inst x).take kx) = s := ⟨_, rfl⟩
      obtain ⟨up, hup⟩ : ∃ s, Evs.S ((Pp.plan rs).take kp) = s := ⟨_, rfl⟩
      rw [hux] at g5
      rw [hup] at g6
      have hsl := seal_walk ux (by rw [← hux, Evs.S_size, List.length_take]; omega) W5
      obtain ⟨vx, hvx⟩ : ∃ s, Evs.S (Pk.shut ux.data.toList) = s := ⟨_, rfl⟩
      rw [hvx] at hsl
      rw [← hux, show (Evs.S ((Pp.inst x).take kx)).data.toList = (Pp.inst x).take kx from rfl] at hvx
      rw [hvx] at hc1
      have hvz : vx.size ≤ 1000000000 := by rw [← hvx, Evs.S_size, Pk.shut_len, List.length_take]; omega
      have e1 : ¬ ((sx.size : Int) < 8) := by omega
      have e2 : ¬ ((sp.size : Int) < 8) := by omega
      have e3 : IntKind.i64.wrap ((sx.size : Int) - 4) = (lx : Int) := by rw [i64_w, Evs.w64 _ (by omega) (by omega)]; omega
      have e4 : IntKind.i64.wrap ((sp.size : Int) - 4) = (lp : Int) := by rw [i64_w, Evs.w64 _ (by omega) (by omega)]; omega
      have e5 : (lx : Int) ≤ (sx.size : Int) := by omega
      have e6 : (lp : Int) ≤ (sp.size : Int) := by omega
      have e7 : i0 % (lx : Int) = (kx : Int) := hkx.symm
      have e8 : i0 % (lp : Int) = (kp : Int) := hkp.symm
      have e9 : (kx : Int) ≤ (lx : Int) := by omega
      have e10 : (kp : Int) ≤ (lp : Int) := by omega
      have HE := Aside0.mk (And.intro hlxe (And.intro hlpe (And.intro htx (And.intro htp (And.intro hup hvx)))))
      have HC1 := Aside0.mk hc1
      have HC2 := Aside0.mk hc2
      have HVZ := Aside0.mk hvz
      have HSL := Aside0.mk hsl
      have HP1 := Aside0.mk (And.intro hp10 (And.intro hp11 hcc1))
      have HP2 := Aside0.mk (And.intro hp20 (And.intro hp21 hcc2))
      clear hx8 hp8 hlxe hlpe hkx hkp htx htp hc1 hc2 hvz hsl hp10 hp11 hp20 hp21 hcc1 hcc2 hux hup hvx
      go_wp2_with fail
      refine HSL.out.mono ?_
      rintro e W6 ⟨rfl, b6⟩
      clear HSL
      have hg := get_walk vx HVZ.out W6 (HT5.out.below b6)
      rw [HC1.out] at hg
      have HG := Aside0.mk hg
      have HB6 := Aside0.mk (HB5.out.trans (b6.mono HB5.out.size))
      have HT6 := Aside0.mk (HT5.out.below b6)
      clear hg b6 HT5 HB5
      go_wp2_with fail
      refine HG.out.mono ?_
      rintro e W7 ⟨v7, vl7, rfl, ⟨y6, y7, rfl, hY6, hY7⟩, hD7, b7⟩
      obtain ⟨Ay, cy, ey6⟩ := Kd.R_slice hY6
      obtain ⟨By, dy, ey7⟩ := Kd.R_slice hY7
      replace ey6 : y6 = .slice Ay 0 cy := ey6
      replace ey7 : y7 = .slice By 0 dy := ey7
      subst ey6
      subst ey7
      obtain ⟨Am, cm, em, hcm, hCm⟩ := Kd.R_reads (R_of_own hD7)
      replace em : vl7 = .slice Am 1 cm := em
      subst em
      have HT7 := Aside0.mk (HT6.out.below b7)
      have HB7 := Aside0.mk (HB6.out.trans (b7.mono HB6.out.size))
      have HCM := Aside0.mk hCm
      clear hY6 hY7 hD7 b7 HG HT6 HB6 hcm hCm
      have HSL : Aside0 (∀ w, Calls Tryz.prog 34 #[.string up] w fun e w' => e = .returned (.string (Evs.S (Pk.shut up.data.toList))) ∧ Below w.heap.size w w') := ⟨fun w => seal_walk up (by rw [← HE.out.2.2.2.2.1, Evs.S_size, List.length_take]; have := HE.out.2.1; omega) w⟩
      go_wp2_with fail
      refine (HSL.out _).mono ?_
      rintro e W8 ⟨rfl, b8⟩
      obtain ⟨vp, hvp⟩ : ∃ s, Evs.S (Pk.shut up.data.toList) = s := ⟨_, rfl⟩
      have hvp' := hvp
      rw [← HE.out.2.2.2.2.1, show (Evs.S ((Pp.plan rs).take kp)).data.toList = (Pp.plan rs).take kp from rfl] at hvp'
      have hc2 := HC2.out
      rw [hvp'] at hc2
      have hvz : vp.size ≤ 1000000000 := by rw [← hvp', Evs.S_size, Pk.shut_len, List.length_take]; have := HE.out.2.1; omega
      rw [hvp]
      have hbx := below_one W7 (inB Cn.zero (.slice Ay 0 cy) (.slice By 0 dy))
      have HT8 := Aside0.mk ((HT7.out.below hbx).below b8)
      have HB8 := Aside0.mk (HB7.out.trans ((hbx.trans (b8.mono hbx.size)).mono HB7.out.size))
      have HCM8 := Aside0.mk (Kd.C_below HCM.out (hbx.trans (b8.mono hbx.size)))
      have hg := getPlan_walk vp hvz W8 HT8.out
      rw [hc2] at hg
      have HG := Aside0.mk hg
      clear hg hbx b8 HT7 HB7 HCM hvp hvp' hc2 hvz HC2 HSL
      go_wp2_with fail
      refine HG.out.mono ?_
      rintro e W9 ⟨vq, rfl, hQ, b9⟩
      obtain ⟨Aq, cq, eq⟩ := Kd.R_slice hQ
      replace eq : vq = .slice Aq 0 cq := eq
      subst eq
      have hbx := below_two W9 (.cells #[.slice Aq 0 cq] 28) (.cells #[.int .i64 p2, .int .i64 c2] 38)
      have htx := two_blocks W9 (.cells #[.slice Aq 0 cq] 28) (.cells #[.int .i64 p2, .int .i64 c2] 38)
      have HT9 := Aside0.mk ((HT8.out.below b9).below hbx)
      have HB9 := Aside0.mk (HB8.out.trans ((b9.trans (hbx.mono b9.size)).mono HB8.out.size))
      have HCM9 := Aside0.mk (Kd.C_below HCM8.out (b9.trans (hbx.mono b9.size)))
      have HD9 := Aside0.mk htx.2
      obtain ⟨mb, hmb⟩ : ∃ s, Evs.S [UInt8.ofNat m0.toNat] = s := ⟨_, rfl⟩
      have hcv := byte_string m0 ((W9.alloc (.cells #[.slice (Aq) 0 cq] 28)).alloc (.cells #[.int .i64 p2, .int .i64 c2] 38))
      rw [show ((W9.alloc (.cells #[.slice (Aq) 0 cq] 28)).alloc (.cells #[.int .i64 p2, .int .i64 c2] 38)).heap.size = W9.heap.size + 1 + 1 by simp, hmb] at hcv
      obtain ⟨zx, hzx⟩ : ∃ s, Evs.S (Pp.inst x ++ [UInt8.ofNat m0.toNat]) = s := ⟨_, rfl⟩
      have e11 : tx ++ mb = zx := by rw [← hzx, ← hmb, ← HE.out.2.2.1, Evs.S_append]
      have hsl := seal_walk zx (by rw [← hzx, Evs.S_size, List.length_append, HE.out.1]; simp; omega)
      obtain ⟨yx, hyx⟩ : ∃ s, Evs.S (Pk.shut zx.data.toList) = s := ⟨_, rfl⟩
      rw [hyx] at hsl
      rw [← hzx, show (Evs.S (Pp.inst x ++ [UInt8.ofNat m0.toNat])).data.toList = Pp.inst x ++ [UInt8.ofNat m0.toNat] from rfl] at hyx
      have hgm := Rr.get_more x HWL.out.p (UInt8.ofNat m0.toNat)
      rw [hyx, HE.out.1] at hgm
      have HGM := Aside0.mk hgm
      have HYX := Aside0.mk (show yx.size ≤ 1000000000 by rw [← hyx, Evs.S_size, Pk.shut_len, List.length_append, HE.out.1]; simp; omega)
      have HMB := Aside0.mk hmb
      have g7 : mb.size = 1 := by rw [← hmb]; rfl
      have g8 : ¬ (9223372036854775807 < lx + 1) := by omega
      have g9 : ¬ (9223372036854775807 < lp + 1) := by omega
      have HSL := Aside0.mk hsl
      have hn := below_one ((W9.alloc (.cells #[.slice (Aq) 0 cq] 28)).alloc (.cells #[.int .i64 p2, .int .i64 c2] 38)) (.cells #[.int .u8 m0] 5)
      have HN := Aside0.mk hn
      clear hbx htx b9 hQ HT8 HB8 HCM8 HG hzx hyx hgm hsl hmb hn
      go_wp2_with fail
      refine (HSL.out _).mono ?_
      rintro e W10 ⟨rfl, b10⟩
      have hk10 := HN.out.trans (b10.mono HN.out.size)
      have HT10 := Aside0.mk (HT9.out.below hk10)
      have HB10 := Aside0.mk (HB9.out.trans (hk10.mono HB9.out.size))
      have HCM10 := Aside0.mk (Kd.C_below HCM9.out hk10)
      have HD10 := Aside0.mk ((hk10.block _ (Array.getElem?_eq_some_iff.1 HD9.out).1).trans HD9.out)
      have hg := get_walk yx HYX.out W10 HT10.out
      rw [HGM.out] at hg
      have HG := Aside0.mk hg
      clear hg b10 hk10 HT9 HB9 HCM9 HD9 HSL HN HGM HYX hcv
      go_wp2_with fail
      refine HG.out.mono ?_
      rintro e W11 ⟨v11, vl11, rfl, ⟨y6, y7, rfl, hY6, hY7⟩, hD11, b11⟩
      obtain ⟨Az, cz, ey6⟩ := Kd.R_slice hY6
      obtain ⟨Bz, dz, ey7⟩ := Kd.R_slice hY7
      replace ey6 : y6 = .slice Az 0 cz := ey6
      replace ey7 : y7 = .slice Bz 0 dz := ey7
      subst ey6
      subst ey7
      obtain ⟨An, cn, en, hcn, hCn⟩ := Kd.R_reads (R_of_own hD11)
      replace en : vl11 = .slice An 1 cn := en
      subst en
      have hbx := below_one W11 (inB Cn.zero (.slice Az 0 cz) (.slice Bz 0 dz))
      have hk11 := b11.trans (hbx.mono b11.size)
      have HT11 := Aside0.mk (HT10.out.below hk11)
      have HB11 := Aside0.mk (HB10.out.trans (hk11.mono HB10.out.size))
      have HCM11 := Aside0.mk (Kd.C_below HCM10.out hk11)
      have HD11 := Aside0.mk ((hk11.block _ (Array.getElem?_eq_some_iff.1 HD10.out).1).trans HD10.out)
      have HCN11 := Aside0.mk (Kd.C_below hCn hbx)
      clear hY6 hY7 hD11 b11 hk11 hbx hcn hCn HG HT10 HB10 HCM10 HD10
      have hcv := byte_string m0 (W11.alloc (inB Cn.zero (.slice Az 0 cz) (.slice Bz 0 dz)))
      rw [show (W11.alloc (inB Cn.zero (.slice Az 0 cz) (.slice Bz 0 dz))).heap.size = W11.heap.size + 1 by simp, HMB.out] at hcv
      obtain ⟨zp, hzp⟩ : ∃ s, Evs.S (Pp.plan rs ++ [UInt8.ofNat m0.toNat]) = s := ⟨_, rfl⟩
      have e12 : tp ++ mb = zp := by rw [← hzp, ← HMB.out, ← HE.out.2.2.2.1, Evs.S_append]
      have hsl := seal_walk zp (by rw [← hzp, Evs.S_size, List.length_append, HE.out.2.1]; simp; omega)
      obtain ⟨yp, hyp⟩ : ∃ s, Evs.S (Pk.shut zp.data.toList) = s := ⟨_, rfl⟩
      rw [hyp] at hsl
      rw [← hzp, show (Evs.S (Pp.plan rs ++ [UInt8.ofNat m0.toNat])).data.toList = Pp.plan rs ++ [UInt8.ofNat m0.toNat] from rfl] at hyp
      have hgm := Rr.getPlan_more rs (ok_rows HOK.out) (by have := HOK.out.1; omega) (UInt8.ofNat m0.toNat)
      rw [hyp, HE.out.2.1] at hgm
      have HGM := Aside0.mk hgm
      have HYP := Aside0.mk (show yp.size ≤ 1000000000 by rw [← hyp, Evs.S_size, Pk.shut_len, List.length_append, HE.out.2.1]; simp; omega)
      have HSL := Aside0.mk hsl
      have hn := below_one (W11.alloc (inB Cn.zero (.slice Az 0 cz) (.slice Bz 0 dz))) (.cells #[.int .u8 m0] 5)
      have HN := Aside0.mk hn
      clear hzp hyp hgm hsl hn e11
      go_wp2_with fail
      refine (HSL.out _).mono ?_
      rintro e W12 ⟨rfl, b12⟩
      have hk12 := HN.out.trans (b12.mono HN.out.size)
      have HT12 := Aside0.mk (HT11.out.below hk12)
      have HB12 := Aside0.mk (HB11.out.trans (hk12.mono HB11.out.size))
      have HCM12 := Aside0.mk (Kd.C_below HCM11.out hk12)
      have HCN12 := Aside0.mk (Kd.C_below HCN11.out hk12)
      have HD12 := Aside0.mk ((hk12.block _ (Array.getElem?_eq_some_iff.1 HD11.out).1).trans HD11.out)
      have hg := getPlan_walk yp HYP.out W12 HT12.out
      rw [HGM.out] at hg
      have HG := Aside0.mk hg
      clear hg b12 hk12 HT11 HB11 HCM11 HD11 HCN11 HSL HN HGM HYP hcv e12
      go_wp2_with fail
      refine HG.out.mono ?_
      rintro e W13 ⟨vq, rfl, hQ, b13⟩
      obtain ⟨Ar, cr, er⟩ := Kd.R_slice hQ
      replace er : vq = .slice Ar 0 cr := er
      subst er
      have hbx := below_two W13 (.cells #[.slice Ar 0 cr] 28) (.cells #[.int .i64 lp, .int .i64 4] 38)
      have htx := two_blocks W13 (.cells #[.slice Ar 0 cr] 28) (.cells #[.int .i64 lp, .int .i64 4] 38)
      have hk13 := b13.trans (hbx.mono b13.size)
      have HB13 := Aside0.mk (HB12.out.trans (hk13.mono HB12.out.size))
      have hd13 := (hk13.block _ (Array.getElem?_eq_some_iff.1 HD12.out).1).trans HD12.out
      obtain ⟨am, eM, m0_, m1_⟩ := at_T38 (Kd.C_below HCM12.out hk13) 0 (by decide) (show (0 : Int) < 1 by decide)
      obtain ⟨an, eN, n0_, n1_⟩ := at_T38 (Kd.C_below HCN12.out hk13) 0 (by decide) (show (0 : Int) < 1 by decide)
      replace m0_ : World.cell? _ (am.add (0 * 2)) = some (.int .i64 p1) := m0_
      replace m1_ : World.cell? _ ⟨(am.add (0 * 2)).block, (am.add (0 * 2)).off + 1, none⟩ = some (.int .i64 c1) := m1_
      replace n0_ : World.cell? _ (an.add (0 * 2)) = some (.int .i64 lx) := n0_
      replace n1_ : World.cell? _ ⟨(an.add (0 * 2)).block, (an.add (0 * 2)).off + 1, none⟩ = some (.int .i64 4) := n1_
      subst eM
      subst eN
      simp only [Nat.zero_mul, addz] at m0_ m1_ n0_ n1_
      have d0 := (Lib.cell_of_heap hd13 0).trans rfl
      have d1 := (Lib.cell_of_heap hd13 1).trans rfl
      have f0 := (Lib.cell_of_heap htx.2 0).trans rfl
      have f1 := (Lib.cell_of_heap htx.2 1).trans rfl
      have he0 := same38 lx 4
      have he1 := same38 lp 4
      obtain ⟨P10, P11, PC1⟩ := HP1.out
      obtain ⟨P20, P21, PC2⟩ := HP2.out
      have r1 : ¬ ((kx : Int) < p1) := by omega
      have r2 : ¬ (p1 < 0) := by omega
      have r3 : ¬ ((kp : Int) < p2) := by omega
      have r4 : ¬ (p2 < 0) := by omega
      have HFB : Aside0 (Below w.heap.size w ((W13.alloc (.cells #[.slice Ar 0 cr] 28)).alloc (.cells #[.int .i64 lp, .int .i64 4] 38))) := ⟨HB3.out.trans (HB13.out.mono HB3.out.size)⟩
      clear hQ b13 hbx htx hk13 hd13 HG HB12 HCM12 HCN12 HD12 HT12 HB13 P10 P11 P20 P21 HP1 HP2 HC63 HC73 HC3 HQ0 HQ1 HB3 HT3
      rcases PC1 with rfl | ⟨hk4, rfl⟩
      · rcases PC2 with rfl | ⟨hq4, rfl⟩
        · go_wp2_with fail
          go_ret
          exact ⟨by first | rfl | simp, HFB.out⟩
        · have r5 : ¬ (4 ≤ (kp : Int)) := by omega
          go_wp2_with fail
          go_ret
          exact ⟨by first | rfl | simp, HFB.out⟩
      · have r6 : ¬ (4 ≤ (kx : Int)) := by omega
        rcases PC2 with rfl | ⟨hq4, rfl⟩
        · go_wp2_with fail
          go_ret
          exact ⟨by first | rfl | simp, HFB.out⟩
        · have r5 : ¬ (4 ≤ (kp : Int)) := by omega
          go_wp2_with fail
          go_ret
          exact ⟨by first | rfl | simp, HFB.out⟩
end Go.Proofs.YtofklpphalalhaaGreatDoor
