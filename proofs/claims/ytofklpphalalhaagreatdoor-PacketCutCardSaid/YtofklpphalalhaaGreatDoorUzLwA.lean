/- packet's shown, walked by hand: a plan, and a tour. Condition: the sums' table lies as listed. -/
import Derived.Test.YtofklpphalalhaaGreatDoorUzGivenN
import Derived.Test.YtofklpphalalhaaGreatDoorUzJ18
namespace Go.Proofs.YtofklpphalalhaaGreatDoor
set_option linter.unusedVariables false
set_option linter.unusedSimpArgs false
open Go.RowKit Go.Proofs.YtofklpphalalhaaGreatDoor.PAll Go.Proofs.YtofklpphalalhaaGreatDoorW.PrintWords Go.Proofs.YtofklpphalalhaaGreatDoorW.PrintLast Go.Proofs.YtofklpphalalhaaGreatDoorW.PrintMore
namespace Rr
def x0 : Cn.In := ⟨⟨#[116]⟩, 1, 1, 0, 0, 0, [⟨-3, 0, 0, 0, 0, 0, 0⟩], []⟩
def r0 : List (List Int) := [[3], []]
theorem told0 : Cn.told x0 = (x0, []) := by
  have h : Cn.check x0 = [] := by kernel_rfl
  unfold Cn.told
  rw [if_pos h]
  have hn : Cn.norm x0 = x0 := by unfold Cn.norm; rw [Cn.normN_stop]; kernel_rfl
  rw [hn]
theorem inst0 : InstP x0 := by
  refine ⟨by decide, ?_, ?_, by decide, ?_, by decide⟩
  · intro n hn; simp [x0] at hn; rcases hn with rfl | rfl <;> exact ⟨by decide, by decide⟩
  · intro d hd; simp [x0] at hd; subst hd
    intro n hn; simp [Pp.nums] at hn; rcases hn with rfl | rfl <;> exact ⟨by decide, by decide⟩
  · intro n hn; simp [x0] at hn
theorem get0 : get (Evs.S (Pk.shut (Pp.inst x0))) = (x0, []) := by rw [get_back x0 inst0, told0]
theorem rows0 : ∀ r ∈ r0, RowP r := by
  intro r hr
  simp [r0] at hr
  rcases hr with rfl | rfl
  · exact ⟨fun x hx => by simp at hx; subst hx; exact ⟨by decide, by decide⟩, by decide⟩
  · exact ⟨fun x hx => by simp at hx, by decide⟩
theorem plan0 : getPlan (Evs.S (Pk.shut (Pp.plan r0))) = (r0, (0, 0)) := getPlan_back r0 rows0 (by decide)
theorem bytes0 : Pp.plan r0 = [69, 80, 84, 2, 2, 1, 6, 0] := by
  unfold Pp.plan r0 Pp.list Pp.ints
  simp only [List.flatMap_cons, List.flatMap_nil, List.length_cons, List.length_nil]
  unfold Pk.putI Pk.putUI Pk.zig
  rw [if_neg (by decide), if_neg (by decide), if_neg (by decide), if_neg (by decide), if_neg (by decide)]
  rw [Pk.putU_lt (by decide), Pk.putU_lt (by decide), Pk.putU_lt (by decide), Pk.putU_lt (by decide)]
  rfl
end Rr
theorem addz (a : Addr) : a.add 0 = a := by cases a; simp [Addr.add]
theorem lit_C {w : World} {n t : Nat} {l : List Int} (h : w.heap[n]? = some (.cells (l.map (Value.int .i64)).toArray t (0, 0))) (hl : l.length ≤ 1000) {m : Nat} (hm : m = l.length) : Kd.C (Kd.int .i64) w (some ⟨n, 0, none⟩) m l := by
  subst hm; exact C_of_block h (by omega)
set_option maxRecDepth 100000 in
set_option maxHeartbeats 32000000 in
theorem shown22_walk (w : World) (HT : Tab w) : Calls Tryz.prog 26 #[] w fun e w' => e = .returned (.bool true) ∧ Below w.heap.size w w' := by
  obtain ⟨V0, hV0⟩ : ∃ V, V = ((w.alloc (.cells #[.int .i64 3] 3)).alloc (.cells #[] 3)).alloc (.cells #[.slice (some ⟨w.heap.size, 0, none⟩) 1 1, .slice (some ⟨w.heap.size + 1, 0, none⟩) 0 0] 23) := ⟨_, rfl⟩
  have hs2 : ((w.alloc (.cells #[.int .i64 3] 3)).alloc (.cells #[] 3)).heap.size = w.heap.size + 2 := by simp
  have hb0 : Below w.heap.size w V0 := by rw [hV0]; exact (below_two w _ _).alloc (by rw [hs2]; omega) _
  have htw := two_blocks w (.cells #[.int .i64 3] 3) (.cells #[] 3)
  have hkk := below_one ((w.alloc (.cells #[.int .i64 3] 3)).alloc (.cells #[] 3)) (.cells #[.slice (some ⟨w.heap.size, 0, none⟩) 1 1, .slice (some ⟨w.heap.size + 1, 0, none⟩) 0 0] 23)
  have q0 : V0.heap[w.heap.size]? = some (.cells #[.int .i64 3] 3) := by rw [hV0]; exact (hkk.block _ (by rw [hs2]; omega)).trans htw.1
  have q1 : V0.heap[w.heap.size + 1]? = some (.cells #[] 3) := by rw [hV0]; exact (hkk.block _ (by rw [hs2]; omega)).trans htw.2
  have q2 : V0.heap[w.heap.size + 2]? = some (.cells #[.slice (some ⟨w.heap.size, 0, none⟩) 1 1, .slice (some ⟨w.heap.size + 1, 0, none⟩) 0 0] 23) := by rw [hV0, ← hs2]; exact Array.getElem?_push_size
  have hC0 : Kd.C kRow V0 (some ⟨w.heap.size + 2, 0, none⟩) Rr.r0.length Rr.r0 := by
    refine ⟨rfl, by decide, fun _ => ⟨_, rfl, fun j p hp => ?_⟩⟩
    match j, hp with
    | 0, hp =>
      obtain rfl : [3] = p := by simpa [Rr.r0] using hp
      refine ⟨[.slice (some ⟨w.heap.size, 0, none⟩) 1 1], rfl, ⟨_, 1, rfl, Nat.le_refl _, lit_C (l := [3]) q0 (by decide) rfl⟩, fun i u hu => ?_⟩
      match i, hu with
      | 0, hu => simp at hu; subst hu; show V0.cell? ⟨w.heap.size + 2, _, none⟩ = _; rw [Lib.cell_of_heap q2]; rfl
    | 1, hp =>
      obtain rfl : [] = p := by simpa [Rr.r0] using hp
      refine ⟨[.slice (some ⟨w.heap.size + 1, 0, none⟩) 0 0], rfl, ⟨_, 0, rfl, Nat.le_refl _, lit_C (l := []) q1 (by decide) rfl⟩, fun i u hu => ?_⟩
      match i, hu with
      | 0, hu => simp at hu; subst hu; show V0.cell? ⟨w.heap.size + 2, _, none⟩ = _; rw [Lib.cell_of_heap q2]; rfl
    | j + 2, hp => simp [Rr.r0] at hp
  have hT0 := HT.below hb0
  have hpp := putPlan_walk Rr.r0 (some ⟨w.heap.size + 2, 0, none⟩) 2 V0 hT0 (by decide) (by decide) hC0
  obtain ⟨sP, hsP⟩ : ∃ s, Evs.S (Pk.shut (Pp.plan Rr.r0)) = s := ⟨_, rfl⟩
  have hsz : sP.size = 12 := by rw [← hsP, Evs.S_size, Pk.shut_len, Rr.bytes0]; rfl
  have hpl := Rr.plan0
  have hgi := Rr.get_plan Rr.r0
  rw [hsP] at hpp hpl hgi
  have hseal : ∀ w, Calls Tryz.prog 34 #[.string ⟨#[69, 80, 84, 2, 2, 1, 6, 0]⟩] w fun e w' => e = .returned (.string sP) ∧ Below w.heap.size w w' := fun w => by
    obtain ⟨k, hk⟩ := (Evs.refSealed ⟨#[69, 80, 84, 2, 2, 1, 6, 0]⟩ (by decide)).rounds
    rw [show (⟨#[69, 80, 84, 2, 2, 1, 6, 0]⟩ : ByteArray).data.toList = Pp.plan Rr.r0 by rw [Rr.bytes0], hsP] at hk
    exact entrepotref21_Seal.calls k _ _ w hk
  have HPP := Aside0.mk hpp
  have HPL := Aside0.mk hpl
  have HGI := Aside0.mk hgi
  have HSEAL := Aside0.mk hseal
  have HSZ := Aside0.mk hsz
  have HB0 := Aside0.mk hb0
  have HT0 := Aside0.mk hT0
  have hz2 : V0.heap.size = w.heap.size + 3 := by rw [hV0]; simp
  have HV0 := Aside0.mk hV0
  rw [hV0] at HPP
  clear hpp hpl hgi hseal hsz hb0 hT0 q0 q1 q2 hC0 htw hkk hs2 hsP
  have HZ2 := Aside0.mk hz2
  clear hz2 hV0
  go_enter Tryz.func26, Tryz.ntmps26
  go_wp2_with fail
  refine HPP.out.mono ?_
  rintro e W1 ⟨rfl, b1⟩
  rw [← HV0.out] at b1
  have HB1 := Aside0.mk (HB0.out.trans (b1.mono HB0.out.size))
  have HT1 := Aside0.mk (HT0.out.below b1)
  have hgp := getPlan_walk sP (by rw [HSZ.out]; decide) W1 HT1.out
  rw [HPL.out] at hgp
  have HGP := Aside0.mk hgp
  clear b1 hgp HPP HV0
  go_wp2_with fail
  refine HGP.out.mono ?_
  rintro e W2 ⟨v, rfl, hR, b2⟩
  obtain ⟨A, c, ev, hcc, hC⟩ := Kd.R_reads hR
  replace ev : v = .slice A 2 c := ev
  subst ev
  have HC := Aside0.mk hC
  have HB2 := Aside0.mk (HB1.out.trans (b2.mono HB1.out.size))
  have HT2 := Aside0.mk (HT1.out.below b2)
  clear hR hcc hC b2 HGP HT1 HB1
  obtain ⟨V3, hV3⟩ : ∃ V, V = ((W2.alloc (.cells #[.slice A 2 c] 28)).alloc (.cells #[.int .i64 0, .int .i64 0] 38)).alloc (.cells #[.int .i64 (-3), .int .i64 0, .int .i64 0, .int .i64 0, .int .i64 0, .int .i64 0, .int .i64 0] 71) := ⟨_, rfl⟩
  have hs2 : ((W2.alloc (.cells #[.slice A 2 c] 28)).alloc (.cells #[.int .i64 0, .int .i64 0] 38)).heap.size = W2.heap.size + 2 := by simp
  have hs3 : V3.heap.size = W2.heap.size + 3 := by rw [hV3]; simp
  have hb3 : Below W2.heap.size W2 V3 := by rw [hV3]; exact (below_two W2 _ _).alloc (by rw [hs2]; omega) _
  have htw := two_blocks W2 (.cells #[.slice A 2 c] 28) (.cells #[.int .i64 0, .int .i64 0] 38)
  have hkk := below_one ((W2.alloc (.cells #[.slice A 2 c] 28)).alloc (.cells #[.int .i64 0, .int .i64 0] 38)) (.cells #[.int .i64 (-3), .int .i64 0, .int .i64 0, .int .i64 0, .int .i64 0, .int .i64 0, .int .i64 0] 71)
  have q0 : V3.heap[W2.heap.size]? = some (.cells #[.slice A 2 c] 28) := by rw [hV3]; exact (hkk.block _ (by rw [hs2]; omega)).trans htw.1
  have q1 : V3.heap[W2.heap.size + 1]? = some (.cells #[.int .i64 0, .int .i64 0] 38) := by rw [hV3]; exact (hkk.block _ (by rw [hs2]; omega)).trans htw.2
  have q2 : V3.heap[W2.heap.size + 2]? = some (.cells #[.int .i64 (-3), .int .i64 0, .int .i64 0, .int .i64 0, .int .i64 0, .int .i64 0, .int .i64 0] 71) := by rw [hV3, ← hs2]; exact Array.getElem?_push_size
  have hC6 : Kd.C k71 V3 (some ⟨W2.heap.size + 2, 0, none⟩) Rr.x0.nodes.length Rr.x0.nodes := by
    refine ⟨rfl, by decide, fun _ => ⟨_, rfl, fun j p hp => ?_⟩⟩
    match j, hp with
    | 0, hp =>
      obtain rfl : (⟨-3, 0, 0, 0, 0, 0, 0⟩ : S71) = p := by simpa [Rr.x0] using hp
      refine ⟨_, rfl, k71_mk V3 ⟨-3, 0, 0, 0, 0, 0, 0⟩, fun i u hu => ?_⟩
      rw [Addr.add_lit, Lib.cell_of_heap q2, Nat.zero_mul, Nat.zero_add, Nat.zero_add, ← hu, ← List.getElem?_toArray]
    | j + 1, hp => simp [Rr.x0] at hp
  have hT3 := HT2.out.below hb3
  have hpx := put_walk Rr.x0 (some ⟨W2.heap.size + 2, 0, none⟩) none 1 0 V3 hT3 (by decide) (by decide) (by decide) hC6 (Kd.C_nil _ _)
  obtain ⟨sX, hsX⟩ : ∃ s, Evs.S (Pk.shut (Pp.inst Rr.x0)) = s := ⟨_, rfl⟩
  have hgx := Rr.get0
  have hxz : sX.size ≤ 1000000000 := by
    rw [← hsX, Evs.S_size, Pk.shut_len]
    have : (Pp.inst Rr.x0).length ≤ 1000 := by
      have h1 := Pp.ints_len [Rr.x0.kind, Rr.x0.metric, Rr.x0.scale, Rr.x0.cap, Rr.x0.fleet]
      have h2 := Pp.nodes_len Rr.x0.nodes
      have h3 := Pp.putUI_len Rr.x0.nodes.length (by decide)
      have h4 := Pp.putUI_len Rr.x0.mx.length (by decide)
      have h5 : (Pk.putT Rr.x0.nm.data.toList).length ≤ 10 := by
        unfold Pk.putT
        have := Evs.putU_len9 Rr.x0.nm.data.toList.length (by decide)
        rw [List.length_append]
        have : Rr.x0.nm.data.toList.length = 1 := rfl
        omega
      have h6 : [Rr.x0.kind, Rr.x0.metric, Rr.x0.scale, Rr.x0.cap, Rr.x0.fleet].length = 5 := rfl
      have h7 : Rr.x0.nodes.length = 1 := rfl
      have h8 : Pp.ints Rr.x0.mx = [] := rfl
      unfold Pp.inst Pp.list
      rw [h8]
      simp only [List.length_append, List.length_cons, List.length_nil] at *
      omega
    omega
  rw [hsX] at hpx hgx
  rw [hV3] at hpx
  have HPX := Aside0.mk hpx
  have HV3 := Aside0.mk hV3
  have HGX := Aside0.mk hgx
  have HXZ := Aside0.mk hxz
  have HQ := Aside0.mk (And.intro q0 (And.intro q1 hs3))
  have HT3 := Aside0.mk hT3
  have HB3 := Aside0.mk (HB2.out.trans (hb3.mono HB2.out.size))
  have HC3 := Aside0.mk (Kd.C_below HC.out hb3)
  clear hpx hgx hxz q0 q1 q2 hs3 hs2 hb3 htw hkk hC6 hT3 hV3 hsX HB2 HT2 HC
  go_wp2_with fail
  refine HPX.out.mono ?_
  rintro e W4 ⟨rfl, b4⟩
  rw [← HV3.out] at b4
  have HK4 := Aside0.mk b4
  have HT4 := Aside0.mk (HT3.out.below b4)
  have hgw := get_walk sX HXZ.out W4 HT4.out
  rw [HGX.out] at hgw
  have HGW := Aside0.mk hgw
  clear hgw b4 HPX HV3 HT3
  go_wp2_with fail
  refine HGW.out.mono ?_
  rintro e W5 ⟨v5, vl5, rfl, ⟨u6, u7, rfl, hR6, hR7⟩, hD5, b5⟩
  obtain ⟨Au, cu, e6, _, hCu⟩ := Kd.R_reads hR6
  obtain ⟨Bu, du, e7⟩ := Kd.R_slice hR7
  obtain ⟨Al, cl, el⟩ := Kd.R_slice (R_of_own hD5)
  replace e6 : u6 = .slice Au 1 cu := e6
  replace e7 : u7 = .slice Bu 0 du := e7
  replace el : vl5 = .slice Al 0 cl := el
  subst e6
  subst e7
  subst el
  have HK5 := Aside0.mk (HK4.out.trans (b5.mono HK4.out.size))
  have HT5 := Aside0.mk (HT4.out.below b5)
  have HCU := Aside0.mk hCu
  have hbx := below_one W5 (.cells #[.string ⟨#[116]⟩, .int .i64 1, .int .i64 1, .int .i64 0, .int .i64 0, .int .i64 0, .slice Au 1 cu, .slice Bu 0 du] 25)
  have hgm := get_walk sP (by rw [HSZ.out]; decide) _ (HT5.out.below hbx)
  rw [HGI.out] at hgm
  have HGM := Aside0.mk hgm
  have HBX := Aside0.mk hbx
  clear hR6 hR7 hD5 b5 hCu hgm HGW HK4 HT4 hbx
  go_wp2_with fail
  refine HGM.out.mono ?_
  rintro e W6 ⟨v6, vl6, rfl, ⟨z6, z7, rfl, hZ6, hZ7⟩, hD6, b6⟩
  obtain ⟨Az, cz, ez6⟩ := Kd.R_slice hZ6
  obtain ⟨Bz, dz, ez7⟩ := Kd.R_slice hZ7
  obtain ⟨Am, cm, em, _, hCm⟩ := Kd.R_reads (R_of_own hD6)
  replace ez6 : z6 = .slice Az 0 cz := ez6
  replace ez7 : z7 = .slice Bz 0 dz := ez7
  replace em : vl6 = .slice Am 1 cm := em
  subst ez6
  subst ez7
  subst em
  have HK6 := Aside0.mk (HBX.out.trans (b6.mono HBX.out.size))
  have hb5 : Below V3.heap.size V3 W6 := HK5.out.trans (HK6.out.mono HK5.out.size)
  have hx6 := (b6.block W5.heap.size (by simp)).trans (show (W5.alloc (.cells #[.string ⟨#[116]⟩, .int .i64 1, .int .i64 1, .int .i64 0, .int .i64 0, .int .i64 0, .slice Au 1 cu, .slice Bu 0 du] 25)).heap[W5.heap.size]? = _ from Array.getElem?_push_size)
  have hm6 := below_one W6 (.cells #[.string ⟨#[]⟩, .int .i64 0, .int .i64 0, .int .i64 0, .int .i64 0, .int .i64 0, .slice Az 0 cz, .slice Bz 0 dz] 25)
  have HX6 := Aside0.mk ((hm6.block W5.heap.size (Array.getElem?_eq_some_iff.1 hx6).1).trans hx6)
  have HM6 := Aside0.mk (hb5.trans (hm6.mono hb5.size))
  have HCM := Aside0.mk (Kd.C_below hCm hm6)
  have HCU6 := Aside0.mk (Kd.C_below HCU.out (HK6.out.trans (hm6.mono HK6.out.size)))
  have HS6 := Aside0.mk (HSEAL.out (W6.alloc (.cells #[.string ⟨#[]⟩, .int .i64 0, .int .i64 0, .int .i64 0, .int .i64 0, .int .i64 0, .slice Az 0 cz, .slice Bz 0 dz] 25)))
  have hV3s := HQ.out.2.2
  clear hZ6 hZ7 hD6 b6 hCm hb5 hx6 hm6 HGM HK5 HK6 HT5 HCU HBX HSEAL hV3s
  go_wp2_with fail
  refine HS6.out.mono ?_
  rintro e W7 ⟨rfl, b7⟩
  have hk7 := HM6.out.trans (b7.mono HM6.out.size)
  have hlt := HQ.out.2.2
  have g0 := (hk7.block _ (by rw [hlt]; omega)).trans HQ.out.1
  have g1 := (hk7.block _ (by rw [hlt]; omega)).trans HQ.out.2.1
  have gx := (b7.block _ (Array.getElem?_eq_some_iff.1 HX6.out).1).trans HX6.out
  have p0 : W7.cell? ⟨W2.heap.size, 0, none⟩ = some (.slice A 2 c) := by rw [Lib.cell_of_heap g0]; rfl
  have p1 : W7.cell? ⟨W2.heap.size + 1, 0, none⟩ = some (.int .i64 0) := by rw [Lib.cell_of_heap g1]; rfl
  have p2 : W7.cell? ⟨W2.heap.size + 1, 1, none⟩ = some (.int .i64 0) := by rw [Lib.cell_of_heap g1]; rfl
  have p6 : W7.cell? ⟨W5.heap.size, 6, none⟩ = some (.slice Au 1 cu) := by rw [Lib.cell_of_heap gx]; rfl
  obtain ⟨ad, A0, c0, eA, r0, _, hC0⟩ := at_L4 (Kd.C_below HC3.out hk7) 0 (by decide) (by decide)
  obtain ⟨a0, eA0, r1⟩ := int_cell hC0 0 (by decide)
  obtain ⟨au, eU, n0, hrest⟩ := at_T71 (Kd.C_below HCU6.out b7) 0 (by decide) (by decide)
  clear hrest
  obtain ⟨am, eM, m0, m1⟩ := at_T38 (Kd.C_below HCM.out b7) 0 (by decide) (by decide)
  replace r0 : W7.cell? (ad.add 0) = some (.slice A0 1 c0) := r0
  replace r1 : W7.cell? (a0.add 0) = some (.int .i64 3) := r1
  replace n0 : W7.cell? (au.add (0 * 7)) = some (.int .i64 (-3)) := n0
  replace m0 : W7.cell? (am.add (0 * 2)) = some (.int .i64 0) := m0
  replace m1 : W7.cell? ⟨(am.add (0 * 2)).block, (am.add (0 * 2)).off + 1, none⟩ = some (.int .i64 220) := m1
  subst eA
  subst eA0
  subst eU
  subst eM
  simp only [Nat.zero_mul, addz] at r0 r1 n0 m0 m1
  have he0 : ∀ w, Sem.run Tryz.prog (binOp .eql 38 (.agg #[.int .i64 0, .int .i64 0]) (.agg #[.int .i64 0, .int .i64 0])) w = .ok (.bool true) w := fun w => by have := eq38 (0, 0) (0, 0) w; simpa using this
  have he1 : ∀ w, Sem.run Tryz.prog (binOp .eql 38 (.agg #[.int .i64 0, .int .i64 220]) (.agg #[.int .i64 0, .int .i64 220])) w = .ok (.bool true) w := fun w => by have := eq38 (0, 220) (0, 220) w; simpa using this
  have HE : Aside0 (Below w.heap.size w W7) := ⟨HB3.out.trans (hk7.mono HB3.out.size)⟩
  clear b7 hk7 hlt g0 g1 gx hC0 HS6 HM6 HX6 HQ HC3 HCU6 HCM HB3
  go_wp2_with fail
  go_ret
  exact ⟨by first | rfl | simp, HE.out⟩
end Go.Proofs.YtofklpphalalhaaGreatDoor
