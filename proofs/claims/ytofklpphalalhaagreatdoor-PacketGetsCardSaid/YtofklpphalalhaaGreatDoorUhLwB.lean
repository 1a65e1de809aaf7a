/- packet's gets, walked by hand: what is read is what the document reads. Conditions: texts of at most 10000 bytes; the sums' table lies as listed. -/
import Derived.Test.YtofklpphalalhaaGreatDoorUhJ1
import Derived.Test.YtofklpphalalhaaGreatDoorUhGivenA
import Derived.Test.YtofklpphalalhaaGreatDoorUhGivenN
import Derived.Test.YtofklpphalalhaaGreatDoorUhJ36
namespace Go.Proofs.YtofklpphalalhaaGreatDoor
set_option linter.unusedVariables false
set_option linter.unusedSimpArgs false
open Go.RowKit Go.Proofs.YtofklpphalalhaaGreatDoor.PAll Go.Proofs.YtofklpphalalhaaGreatDoorW.PrintWords Go.Proofs.YtofklpphalalhaaGreatDoorW.PrintLast Go.Proofs.YtofklpphalalhaaGreatDoorW.PrintMore
theorem cb {w w1 : World} {a : Addr} {v : Value} (hb : Below w.heap.size w w1) (h : w.cell? a = some v) : w1.cell? a = some v := by
 have hl : a.block < w.heap.size := by
  rcases Nat.lt_or_ge a.block w.heap.size with h' | h'
  ·exact h'
  ·unfold World.cell? at h; rw [Array.getElem?_eq_none h'] at h; cases h
 rw [hb.cell (p := a) hl]; exact h
theorem eqs38 (a e : Int) (w : World) : Sem.run Tryz.prog (binOp .eql 38 (.agg #[.int .i64 a, .int .i64 e]) (.agg #[.int .i64 a, .int .i64 e])) w = .ok (.bool true) w := by have := eq38 (a, e) (a, e) w; simpa using this
theorem y_cells {W : World} {g : Nat} {x : Cn.In} {v6 v7 : Value} (h : W.heap[g]? = some (yB x v6 v7)) : W.cell? ⟨g, 0, none⟩ = some (.string x.nm) ∧ W.cell? ⟨g, 1, none⟩ = some (.int .i64 x.kind) ∧ W.cell? ⟨g, 2, none⟩ = some (.int .i64 x.metric) ∧ W.cell? ⟨g, 3, none⟩ = some (.int .i64 x.scale) ∧ W.cell? ⟨g, 4, none⟩ = some (.int .i64 x.cap) ∧ W.cell? ⟨g, 5, none⟩ = some (.int .i64 x.fleet) ∧ W.cell? ⟨g, 6, none⟩ = some v6 ∧ W.cell? ⟨g, 7, none⟩ = some v7 := by
 refine ⟨?_, ?_, ?_, ?_, ?_, ?_, ?_, ?_⟩ <;> (rw [Lib.cell_of_heap h]; rfl)
set_option maxRecDepth 100000 in
set_option maxHeartbeats 32000000 in
theorem gets_walk (s : ByteArray) (hs : s.size ≤ 10000) (w : World) (HT : Tab w) : Calls Tryz.prog 33 #[.string s] w fun e w' => e = .returned (.bool true) ∧ Below w.heap.size w w' := by
 have hlen := Rr.get_len s
 have hpl := Rr.getPlan_len s
 have hG := Aside0.mk (get_walk s (by omega) w HT)
 have hG2 := Aside0.mk (get2_walk s (by omega))
 have hP2 := Aside0.mk (getPlan2_walk s (by omega))
 have hP1 : Aside0 (∀ w, Tab w → _) := ⟨fun w HT => getPlan_walk s (by omega) w HT⟩
 rw [Rq.get_eq] at hG2
 rw [Rq.getPlan_eq] at hP2
 obtain ⟨gx, hgx⟩ : ∃ g, Rr.get s = g := ⟨_, rfl⟩
 obtain ⟨gp, hgp⟩ : ∃ g, Rr.getPlan s = g := ⟨_, rfl⟩
 rw [hgx] at hG hG2 hlen
 rw [hgp] at hP1 hP2 hpl
 obtain ⟨x, l⟩ := gx
 obtain ⟨p, a, e⟩ := gp
 simp only at hG hG2 hP1 hP2 hlen hpl
 have HLEN := Aside0.mk hlen
 have HPL := Aside0.mk hpl
 replace HT := Aside0.mk HT
 clear hgx hgp hlen hpl
 go_enter Tryz.func33, Tryz.ntmps33
 go_wp2_with fail
 refine hG.out.mono ?_
 rintro e1 W1 ⟨vx, vl, rfl, ⟨v6, v7, rfl, hR6, hR7⟩, hD1, b1⟩
 obtain ⟨A6, c6, e6, _, hC6⟩ := Kd.R_reads hR6
 obtain ⟨A7, c7, e7, hl7, hC7⟩ := Kd.R_reads hR7
 obtain ⟨Ld, lc, el, hll, hCL⟩ := Kd.R_reads (R_of_own hD1)
 rw [List.length_map] at el hll hCL
 subst e6
 subst e7
 subst el
 have hv1 := below_one W1 (inB x (.slice A6 x.nodes.length c6) (.slice A7 x.mx.length c7))
 have HB1 := Aside0.mk (b1.trans (hv1.mono b1.size))
 have HC6 := Aside0.mk (Kd.C_below hC6 hv1)
 have HC7 := Aside0.mk (Kd.C_below hC7 hv1)
 have HL7 := Aside0.mk hl7
 have HCL := Aside0.mk (Kd.C_below hCL hv1)
 have HLL := Aside0.mk hll
 have HX : Aside0 ((W1.alloc (inB x (.slice A6 x.nodes.length c6) (.slice A7 x.mx.length c7))).heap[W1.heap.size]? = some (inB x (.slice A6 x.nodes.length c6) (.slice A7 x.mx.length c7))) := ⟨Array.getElem?_push_size⟩
 have HG2 := Aside0.mk (hG2.out (W1.alloc (inB x (.slice A6 x.nodes.length c6) (.slice A7 x.mx.length c7))))
 clear hR6 hR7 hD1 b1 hC6 hC7 hl7 hCL hll hv1 hG hG2
 go_wp2_with fail
 refine HG2.out.mono ?_
 rintro e1 W2 ⟨vy, vm, rfl, ⟨y6, y7, rfl, hR6, hR7⟩, hD2, b2⟩
 obtain ⟨B6, d6, e6, hm6, hC6⟩ := Kd.R_reads hR6
 obtain ⟨B7, d7, e7, hm7, hC7⟩ := Kd.R_reads hR7
 obtain ⟨Md, mc, el, hml, hCM⟩ := Kd.R_reads hD2
 rw [List.length_map] at e6 hm6 hC6 el hml hCM
 subst e6
 subst e7
 subst el
 have hv2 := below_one W2 (yB x (.slice B6 x.nodes.length d6) (.slice B7 x.mx.length d7))
 have HB2 := Aside0.mk (b2.trans (hv2.mono b2.size))
 have HD6 := Aside0.mk (Kd.C_below hC6 hv2)
 have HD7 := Aside0.mk (Kd.C_below hC7 hv2)
 have HM6 := Aside0.mk hm6
 have HM7 := Aside0.mk hm7
 have HCM := Aside0.mk (Kd.C_below hCM hv2)
 have HML := Aside0.mk hml
 have HY : Aside0 ((W2.alloc (yB x (.slice B6 x.nodes.length d6) (.slice B7 x.mx.length d7))).heap[W2.heap.size]? = some (yB x (.slice B6 x.nodes.length d6) (.slice B7 x.mx.length d7))) := ⟨Array.getElem?_push_size⟩
 have HP1 := Aside0.mk (hP1.out (W2.alloc (yB x (.slice B6 x.nodes.length d6) (.slice B7 x.mx.length d7))) ((HT.out.below HB1.out).below HB2.out))
 clear hR6 hR7 hD2 b2 hC6 hC7 hm6 hm7 hCM hml hv2 HG2 hP1
 go_wp2_with fail
 refine HP1.out.mono ?_
 rintro e1 W3 ⟨vp, rfl, hRp, b3⟩
 obtain ⟨P, pc, ep, hpc, hCp⟩ := Kd.R_reads hRp
 subst ep
 have hv3 := below_two W3 (.cells #[.slice P p.length pc] 28) (.cells #[.int .i64 a, .int .i64 e] 38)
 have HB3 := Aside0.mk (b3.trans (hv3.mono b3.size))
 have HCP := Aside0.mk (Kd.C_below hCp hv3)
 have HPC := Aside0.mk hpc
 have HPB := Aside0.mk (two_blocks W3 (.cells #[.slice P p.length pc] 28) (.cells #[.int .i64 a, .int .i64 e] 38))
 have HP2 := Aside0.mk (hP2.out ((W3.alloc (.cells #[.slice P p.length pc] 28)).alloc (.cells #[.int .i64 a, .int .i64 e] 38)))
 clear hRp b3 hpc hCp hv3 HP1 hP2
 go_wp2_with fail
 refine HP2.out.mono ?_
 rintro e1 W4 ⟨vq, rfl, hRq, b4⟩
 obtain ⟨Q, qc, eq, hqc, hCq⟩ := Kd.R_reads hRq
 subst eq
 have hv4 := below_two W4 (.cells #[.slice Q p.length qc] 54) (.cells #[.int .i64 a, .int .i64 e] 38)
 have HB4 := Aside0.mk (b4.trans (hv4.mono b4.size))
 have HCQ := Aside0.mk (Kd.C_below hCq hv4)
 have HQC := Aside0.mk hqc
 have HQB := Aside0.mk (two_blocks W4 (.cells #[.slice Q p.length qc] 54) (.cells #[.int .i64 a, .int .i64 e] 38))
 clear hRq b4 hqc hCq hv4 HP2
 obtain ⟨W5, hW5⟩ : ∃ W, (W4.alloc (.cells #[.slice Q p.length qc] 54)).alloc (.cells #[.int .i64 a, .int .i64 e] 38) = W := ⟨_, rfl⟩
 go_wp2_with fail
 rw [hW5] at HB4 HCQ HQB
 have HF : Aside0 (W5.cell? ⟨W1.heap.size, 0, none⟩ = some (.string x.nm) ∧ W5.cell? ⟨W1.heap.size, 1, none⟩ = some (.int .i64 x.kind) ∧ W5.cell? ⟨W1.heap.size, 2, none⟩ = some (.int .i64 x.metric) ∧ W5.cell? ⟨W1.heap.size, 3, none⟩ = some (.int .i64 x.scale) ∧ W5.cell? ⟨W1.heap.size, 4, none⟩ = some (.int .i64 x.cap) ∧ W5.cell? ⟨W1.heap.size, 5, none⟩ = some (.int .i64 x.fleet) ∧ W5.cell? ⟨W1.heap.size, 6, none⟩ = some (.slice A6 x.nodes.length c6) ∧ W5.cell? ⟨W1.heap.size, 7, none⟩ = some (.slice A7 x.mx.length c7) ∧ W5.cell? ⟨W2.heap.size, 0, none⟩ = some (.string x.nm) ∧ W5.cell? ⟨W2.heap.size, 1, none⟩ = some (.int .i64 x.kind) ∧ W5.cell? ⟨W2.heap.size, 2, none⟩ = some (.int .i64 x.metric) ∧ W5.cell? ⟨W2.heap.size, 3, none⟩ = some (.int .i64 x.scale) ∧ W5.cell? ⟨W2.heap.size, 4, none⟩ = some (.int .i64 x.cap) ∧ W5.cell? ⟨W2.heap.size, 5, none⟩ = some (.int .i64 x.fleet) ∧ W5.cell? ⟨W2.heap.size, 6, none⟩ = some (.slice B6 x.nodes.length d6) ∧ W5.cell? ⟨W2.heap.size, 7, none⟩ = some (.slice B7 x.mx.length d7) ∧ W5.cell? ⟨W3.heap.size, 0, none⟩ = some (.slice P p.length pc) ∧ W5.cell? ⟨W4.heap.size, 0, none⟩ = some (.slice Q p.length qc) ∧ W5.cell? ⟨W3.heap.size + 1, 0, none⟩ = some (.int .i64 a) ∧ W5.cell? ⟨W3.heap.size + 1, 1, none⟩ = some (.int .i64 e) ∧ W5.cell? ⟨W4.heap.size + 1, 0, none⟩ = some (.int .i64 a) ∧ W5.cell? ⟨W4.heap.size + 1, 1, none⟩ = some (.int .i64 e)) := ⟨by
  have k3 := HB3.out.trans (HB4.out.mono HB3.out.size)
  have k2 := HB2.out.trans (k3.mono HB2.out.size)
  obtain ⟨x0, x1, x2, x3, x4, x5, x6, x7⟩ := box_cells ((k2.block _ (by have := (Array.getElem?_eq_some_iff.1 HX.out).1; exact this)).trans HX.out)
  obtain ⟨y0, y1, y2, y3, y4, y5, y6, y7⟩ := y_cells ((k3.block _ (by have := (Array.getElem?_eq_some_iff.1 HY.out).1; exact this)).trans HY.out)
  have p0 := (HB4.out.block _ (Array.getElem?_eq_some_iff.1 HPB.out.1).1).trans HPB.out.1
  have p1 := (HB4.out.block _ (Array.getElem?_eq_some_iff.1 HPB.out.2).1).trans HPB.out.2
  refine ⟨x0, x1, x2, x3, x4, x5, x6, x7, y0, y1, y2, y3, y4, y5, y6, y7, ?_, ?_, ?_, ?_, ?_, ?_⟩
  ·rw [Lib.cell_of_heap p0]; rfl
  ·rw [Lib.cell_of_heap HQB.out.1]; rfl
  ·rw [Lib.cell_of_heap p1]; rfl
  ·rw [Lib.cell_of_heap p1]; rfl
  ·rw [Lib.cell_of_heap HQB.out.2]; rfl
  ·rw [Lib.cell_of_heap HQB.out.2]; rfl⟩
 have HI : Aside0 (∀ U, Below W5.heap.size W5 U → Calls Tryz.prog 29 #[inV x (.slice A6 x.nodes.length c6) (.slice A7 x.mx.length c7)] U fun e w' => ∃ u6, e = .returned (.agg #[.string x.nm, .int .i64 x.kind, .int .i64 x.metric, .int .i64 x.scale, .int .i64 x.cap, .int .i64 x.fleet, u6, .slice A7 x.mx.length c7]) ∧ Kd.R k128 128 w' U.heap.size (fun _ => True) u6 (x.nodes.map rn) ∧ Below U.heap.size U w') := ⟨fun U hU => its22_walk x A6 A7 c6 c7 U (by have := HLEN.out.1; omega) (Kd.C_below (Kd.C_below (Kd.C_below (Kd.C_below HC6.out HB2.out) HB3.out) HB4.out) hU)⟩
 have HS8 : Aside0 (∀ U Au cu, Below W5.heap.size W5 U → x.nodes.length ≤ cu → Kd.C k128 U Au x.nodes.length (x.nodes.map rn) → Calls Tryz.prog 42 #[.agg #[.string x.nm, .int .i64 x.kind, .int .i64 x.metric, .int .i64 x.scale, .int .i64 x.cap, .int .i64 x.fleet, .slice Au x.nodes.length cu, .slice A7 x.mx.length c7], .agg #[.string x.nm, .int .i64 x.kind, .int .i64 x.metric, .int .i64 x.scale, .int .i64 x.cap, .int .i64 x.fleet, .slice B6 x.nodes.length d6, .slice B7 x.mx.length d7]] U fun e w' => e = .returned (.bool true) ∧ Below U.heap.size U w') := ⟨fun U Au cu hU hcu hCu => by
  have hl : (x.nodes.map rn).length = x.nodes.length := List.length_map _
  have h := same42_walk x (x.nodes.map rn) Au A7 B6 B7 cu c7 d6 d7 U (by rw [hl]; exact hCu) (Kd.C_below (Kd.C_below (Kd.C_below (Kd.C_below HC7.out HB2.out) HB3.out) HB4.out) hU) (by rw [hl]; exact Kd.C_below (Kd.C_below (Kd.C_below HD6.out HB3.out) HB4.out) hU) (Kd.C_below (Kd.C_below (Kd.C_below HD7.out HB3.out) HB4.out) hU)
  rw [hl] at h
  exact h⟩
 have HS4 : Aside0 (∀ U, Below W5.heap.size W5 U → Calls Tryz.prog 43 #[.slice Ld l.length lc, .slice Md l.length mc] U fun e w' => e = .returned (.bool true) ∧ Below U.heap.size U w') := ⟨fun U hU => by
  have hl : (l.map toS).length = l.length := List.length_map _
  have h := same43_walk Ld Md lc mc (l.map toS) U (by rw [hl]; exact Kd.C_below (Kd.C_below (Kd.C_below (Kd.C_below HCL.out HB2.out) HB3.out) HB4.out) hU) (by rw [hl]; exact Kd.C_below (Kd.C_below (Kd.C_below HCM.out HB3.out) HB4.out) hU)
  rw [hl] at h
  exact h⟩
 have HS9 : Aside0 (∀ U, Below W5.heap.size W5 U → Calls Tryz.prog 44 #[.agg #[.slice P p.length pc], .agg #[.slice Q p.length qc]] U fun e w' => e = .returned (.bool true) ∧ Below U.heap.size U w') := ⟨fun U hU => same44_walk P Q pc qc p U (Kd.C_below (Kd.C_below HCP.out HB4.out) hU) (Kd.C_below HCQ.out hU)⟩
 have h400 : (x.nodes.length : Int) ≤ 400 := by have := HLEN.out.1; omega
 have hq := eqs38 a e
 have HBW : Aside0 (Below w.heap.size w W5) := ⟨HB1.out.trans ((HB2.out.trans ((HB3.out.trans (HB4.out.mono HB3.out.size)).mono HB2.out.size)).mono HB1.out.size)⟩
 clear HB1 HB2 HB3 HB4 HC6 HC7 HL7 HCL HLL HX HY HD6 HD7 HM6 HM7 HCM HML HCP HPC HPB HCQ HQC HQB hW5
 refine start_ (n := 27) (S := fun w' => w'.cell? ⟨W1.heap.size, 0, none⟩ = some (.string x.nm) ∧ w'.cell? ⟨W1.heap.size, 1, none⟩ = some (.int .i64 x.kind) ∧ w'.cell? ⟨W1.heap.size, 2, none⟩ = some (.int .i64 x.metric) ∧ w'.cell? ⟨W1.heap.size, 3, none⟩ = some (.int .i64 x.scale) ∧ w'.cell? ⟨W1.heap.size, 4, none⟩ = some (.int .i64 x.cap) ∧ w'.cell? ⟨W1.heap.size, 5, none⟩ = some (.int .i64 x.fleet) ∧ w'.cell? ⟨W1.heap.size, 6, none⟩ = some (.slice A6 x.nodes.length c6) ∧ w'.cell? ⟨W1.heap.size, 7, none⟩ = some (.slice A7 x.mx.length c7) ∧ w'.cell? ⟨W2.heap.size, 0, none⟩ = some (.string x.nm) ∧ w'.cell? ⟨W2.heap.size, 1, none⟩ = some (.int .i64 x.kind) ∧ w'.cell? ⟨W2.heap.size, 2, none⟩ = some (.int .i64 x.metric) ∧ w'.cell? ⟨W2.heap.size, 3, none⟩ = some (.int .i64 x.scale) ∧ w'.cell? ⟨W2.heap.size, 4, none⟩ = some (.int .i64 x.cap) ∧ w'.cell? ⟨W2.heap.size, 5, none⟩ = some (.int .i64 x.fleet) ∧ w'.cell? ⟨W2.heap.size, 6, none⟩ = some (.slice B6 x.nodes.length d6) ∧ w'.cell? ⟨W2.heap.size, 7, none⟩ = some (.slice B7 x.mx.length d7) ∧ w'.cell? ⟨W3.heap.size, 0, none⟩ = some (.slice P p.length pc) ∧ w'.cell? ⟨W4.heap.size, 0, none⟩ = some (.slice Q p.length qc) ∧ w'.cell? ⟨W3.heap.size + 1, 0, none⟩ = some (.int .i64 a) ∧ w'.cell? ⟨W3.heap.size + 1, 1, none⟩ = some (.int .i64 e) ∧ w'.cell? ⟨W4.heap.size + 1, 0, none⟩ = some (.int .i64 a) ∧ w'.cell? ⟨W4.heap.size + 1, 1, none⟩ = some (.int .i64 e)) (ds := []) #[false, false, false, false, false, false, false, false, false, false, false, false, false, false, false, false, false, false, false, false, false, false, false, false, false, false, false] (by kernel_rfl) rfl rfl ⟨HF.out.1, HF.out.2.1, HF.out.2.2.1, HF.out.2.2.2.1, HF.out.2.2.2.2.1, HF.out.2.2.2.2.2.1, HF.out.2.2.2.2.2.2.1, HF.out.2.2.2.2.2.2.2.1, HF.out.2.2.2.2.2.2.2.2.1, HF.out.2.2.2.2.2.2.2.2.2.1, HF.out.2.2.2.2.2.2.2.2.2.2.1, HF.out.2.2.2.2.2.2.2.2.2.2.2.1, HF.out.2.2.2.2.2.2.2.2.2.2.2.2.1, HF.out.2.2.2.2.2.2.2.2.2.2.2.2.2.1, HF.out.2.2.2.2.2.2.2.2.2.2.2.2.2.2.1, HF.out.2.2.2.2.2.2.2.2.2.2.2.2.2.2.2.1, HF.out.2.2.2.2.2.2.2.2.2.2.2.2.2.2.2.2.1, HF.out.2.2.2.2.2.2.2.2.2.2.2.2.2.2.2.2.2.1, HF.out.2.2.2.2.2.2.2.2.2.2.2.2.2.2.2.2.2.2.1, HF.out.2.2.2.2.2.2.2.2.2.2.2.2.2.2.2.2.2.2.2.1, HF.out.2.2.2.2.2.2.2.2.2.2.2.2.2.2.2.2.2.2.2.2.1, HF.out.2.2.2.2.2.2.2.2.2.2.2.2.2.2.2.2.2.2.2.2.2⟩ (fun hHeld => ?_)
 refine pz (i := 0) (N := some 31) (bz 27 1) ?_
 refine tz (i := 1) (N := some 32) (bz 27 3) hHeld ?_
 refine pz (i := 2) (N := some 33) (bz 27 7) ?_
 refine pz (i := 3) (N := some 34) (bz 27 15) ?_
 refine pz (i := 4) (N := some 35) (bz 27 31) ?_
 refine tz (i := 5) (N := some 36) (bz 27 63) hHeld ?_
 refine tz (i := 7) (N := some 38) (bz 27 191) hHeld ?_
 refine one_ (i := 6) (N := some 37) (bz 27 255) rfl rfl (by kernel_rfl) (by decide) (fun K hK => ?_)
 have hH := hHeld
 refine goes_ Tryz.func29 (by kernel_rfl) rfl #[.agg #[.string x.nm, .int .i64 x.kind, .int .i64 x.metric, .int .i64 x.scale, .int .i64 x.cap, .int .i64 x.fleet, .slice A6 x.nodes.length c6, .slice A7 x.mx.length c7]] (by rfl) rfl rfl (by simp only [List.map_toArray, List.map_cons, List.map_nil]; rfl) ?_
 with_reducible refine ((HI.out _ (Below.refl _ _).drew)).mono ?_
 rintro e U1 ⟨u6, rfl, hRu, bk⟩
 refine ⟨_, rfl, ?_⟩
 obtain ⟨Au, cu, eu, hcu, hCu⟩ := Kd.R_reads hRu
 rw [List.length_map] at eu hcu hCu
 subst eu
 have HCU := Aside0.mk hCu
 have HCUL := Aside0.mk hcu
 have HK1 := Aside0.mk ((Below.refl W5.heap.size W5).drew.trans bk)
 refine hK.out _ _ ⟨(cb bk hH.1), (cb bk hH.2.1), (cb bk hH.2.2.1), (cb bk hH.2.2.2.1), (cb bk hH.2.2.2.2.1), (cb bk hH.2.2.2.2.2.1), (cb bk hH.2.2.2.2.2.2.1), (cb bk hH.2.2.2.2.2.2.2.1), (cb bk hH.2.2.2.2.2.2.2.2.1), (cb bk hH.2.2.2.2.2.2.2.2.2.1), (cb bk hH.2.2.2.2.2.2.2.2.2.2.1), (cb bk hH.2.2.2.2.2.2.2.2.2.2.2.1), (cb bk hH.2.2.2.2.2.2.2.2.2.2.2.2.1), (cb bk hH.2.2.2.2.2.2.2.2.2.2.2.2.2.1), (cb bk hH.2.2.2.2.2.2.2.2.2.2.2.2.2.2.1), (cb bk hH.2.2.2.2.2.2.2.2.2.2.2.2.2.2.2.1), (cb bk hH.2.2.2.2.2.2.2.2.2.2.2.2.2.2.2.2.1), (cb bk hH.2.2.2.2.2.2.2.2.2.2.2.2.2.2.2.2.2.1), (cb bk hH.2.2.2.2.2.2.2.2.2.2.2.2.2.2.2.2.2.2.1), (cb bk hH.2.2.2.2.2.2.2.2.2.2.2.2.2.2.2.2.2.2.2.1), (cb bk hH.2.2.2.2.2.2.2.2.2.2.2.2.2.2.2.2.2.2.2.2.1), (cb bk hH.2.2.2.2.2.2.2.2.2.2.2.2.2.2.2.2.2.2.2.2.2)⟩ (fun hHeld => ?_)
 clear hK K
 refine nz (N := some 37) ?_
 refine one_ (i := 8) (N := some 39) (bz 27 511) rfl rfl (by kernel_rfl) (by decide) (fun K hK => ?_)
 have hH := hHeld
 refine goes_ Tryz.func42 (by kernel_rfl) rfl #[.agg #[.string x.nm, .int .i64 x.kind, .int .i64 x.metric, .int .i64 x.scale, .int .i64 x.cap, .int .i64 x.fleet, .slice Au x.nodes.length cu, .slice A7 x.mx.length c7], .agg #[.string x.nm, .int .i64 x.kind, .int .i64 x.metric, .int .i64 x.scale, .int .i64 x.cap, .int .i64 x.fleet, .slice B6 x.nodes.length d6, .slice B7 x.mx.length d7]] (by rfl) rfl rfl (by simp only [List.map_toArray, List.map_cons, List.map_nil]; rfl) ?_
 with_reducible refine ((HS8.out _ Au cu HK1.out HCUL.out HCU.out)).mono ?_
 rintro e U2 ⟨rfl, bk⟩
 refine ⟨_, rfl, ?_⟩
 have HK2 := Aside0.mk (HK1.out.trans (bk.mono HK1.out.size))
 refine hK.out _ _ ⟨(cb bk hH.1), (cb bk hH.2.1), (cb bk hH.2.2.1), (cb bk hH.2.2.2.1), (cb bk hH.2.2.2.2.1), (cb bk hH.2.2.2.2.2.1), (cb bk hH.2.2.2.2.2.2.1), (cb bk hH.2.2.2.2.2.2.2.1), (cb bk hH.2.2.2.2.2.2.2.2.1), (cb bk hH.2.2.2.2.2.2.2.2.2.1), (cb bk hH.2.2.2.2.2.2.2.2.2.2.1), (cb bk hH.2.2.2.2.2.2.2.2.2.2.2.1), (cb bk hH.2.2.2.2.2.2.2.2.2.2.2.2.1), (cb bk hH.2.2.2.2.2.2.2.2.2.2.2.2.2.1), (cb bk hH.2.2.2.2.2.2.2.2.2.2.2.2.2.2.1), (cb bk hH.2.2.2.2.2.2.2.2.2.2.2.2.2.2.2.1), (cb bk hH.2.2.2.2.2.2.2.2.2.2.2.2.2.2.2.2.1), (cb bk hH.2.2.2.2.2.2.2.2.2.2.2.2.2.2.2.2.2.1), (cb bk hH.2.2.2.2.2.2.2.2.2.2.2.2.2.2.2.2.2.2.1), (cb bk hH.2.2.2.2.2.2.2.2.2.2.2.2.2.2.2.2.2.2.2.1), (cb bk hH.2.2.2.2.2.2.2.2.2.2.2.2.2.2.2.2.2.2.2.2.1), (cb bk hH.2.2.2.2.2.2.2.2.2.2.2.2.2.2.2.2.2.2.2.2.2)⟩ (fun hHeld => ?_)
 clear hK K
 refine nz (N := some 39) ?_
 refine pz (i := 9) (N := some 40) (bz 27 1023) ?_
 refine pz (i := 10) (N := some 41) (bz 27 2047) ?_
 refine pz (i := 11) (N := some 42) (bz 27 4095) ?_
 refine pz (i := 12) (N := some 43) (bz 27 8191) ?_
 refine one_ (i := 13) (N := some 44) (bz 27 16383) rfl rfl (by kernel_rfl) (by decide) (fun K hK => ?_)
 have hH := hHeld
 refine goes_ Tryz.func43 (by kernel_rfl) rfl #[.slice Ld l.length lc, .slice Md l.length mc] (by rfl) rfl rfl (by simp only [List.map_toArray, List.map_cons, List.map_nil]; rfl) ?_
 with_reducible refine ((HS4.out _ HK2.out)).mono ?_
 rintro e U3 ⟨rfl, bk⟩
 refine ⟨_, rfl, ?_⟩
 have HK3 := Aside0.mk (HK2.out.trans (bk.mono HK2.out.size))
 refine hK.out _ _ ⟨(cb bk hH.1), (cb bk hH.2.1), (cb bk hH.2.2.1), (cb bk hH.2.2.2.1), (cb bk hH.2.2.2.2.1), (cb bk hH.2.2.2.2.2.1), (cb bk hH.2.2.2.2.2.2.1), (cb bk hH.2.2.2.2.2.2.2.1), (cb bk hH.2.2.2.2.2.2.2.2.1), (cb bk hH.2.2.2.2.2.2.2.2.2.1), (cb bk hH.2.2.2.2.2.2.2.2.2.2.1), (cb bk hH.2.2.2.2.2.2.2.2.2.2.2.1), (cb bk hH.2.2.2.2.2.2.2.2.2.2.2.2.1), (cb bk hH.2.2.2.2.2.2.2.2.2.2.2.2.2.1), (cb bk hH.2.2.2.2.2.2.2.2.2.2.2.2.2.2.1), (cb bk hH.2.2.2.2.2.2.2.2.2.2.2.2.2.2.2.1), (cb bk hH.2.2.2.2.2.2.2.2.2.2.2.2.2.2.2.2.1), (cb bk hH.2.2.2.2.2.2.2.2.2.2.2.2.2.2.2.2.2.1), (cb bk hH.2.2.2.2.2.2.2.2.2.2.2.2.2.2.2.2.2.2.1), (cb bk hH.2.2.2.2.2.2.2.2.2.2.2.2.2.2.2.2.2.2.2.1), (cb bk hH.2.2.2.2.2.2.2.2.2.2.2.2.2.2.2.2.2.2.2.2.1), (cb bk hH.2.2.2.2.2.2.2.2.2.2.2.2.2.2.2.2.2.2.2.2.2)⟩ (fun hHeld => ?_)
 clear hK K
 refine nz (N := some 44) ?_
 refine pz (i := 14) (N := some 45) (bz 27 32767) ?_
 refine pz (i := 15) (N := some 46) (bz 27 65535) ?_
 refine tz (i := 16) (N := some 47) (bz 27 131071) hHeld ?_
 refine tz (i := 18) (N := some 49) (bz 27 393215) hHeld ?_
 refine one_ (i := 17) (N := some 48) (bz 27 524287) rfl rfl (by kernel_rfl) (by decide) (fun K hK => ?_)
 have hH := hHeld
 refine goes_ Tryz.func32 (by kernel_rfl) rfl #[.agg #[.slice P p.length pc]] (by rfl) rfl rfl (by simp only [List.map_toArray, List.map_cons, List.map_nil]; rfl) ?_
 with_reducible refine ((theirs_walk _ P p.length pc _ rfl)).mono ?_
 rintro e U4 ⟨rfl, bk⟩
 refine ⟨_, rfl, ?_⟩
 have HK4 := Aside0.mk (HK3.out.trans (bk.mono HK3.out.size))
 refine hK.out _ _ ⟨(cb bk hH.1), (cb bk hH.2.1), (cb bk hH.2.2.1), (cb bk hH.2.2.2.1), (cb bk hH.2.2.2.2.1), (cb bk hH.2.2.2.2.2.1), (cb bk hH.2.2.2.2.2.2.1), (cb bk hH.2.2.2.2.2.2.2.1), (cb bk hH.2.2.2.2.2.2.2.2.1), (cb bk hH.2.2.2.2.2.2.2.2.2.1), (cb bk hH.2.2.2.2.2.2.2.2.2.2.1), (cb bk hH.2.2.2.2.2.2.2.2.2.2.2.1), (cb bk hH.2.2.2.2.2.2.2.2.2.2.2.2.1), (cb bk hH.2.2.2.2.2.2.2.2.2.2.2.2.2.1), (cb bk hH.2.2.2.2.2.2.2.2.2.2.2.2.2.2.1), (cb bk hH.2.2.2.2.2.2.2.2.2.2.2.2.2.2.2.1), (cb bk hH.2.2.2.2.2.2.2.2.2.2.2.2.2.2.2.2.1), (cb bk hH.2.2.2.2.2.2.2.2.2.2.2.2.2.2.2.2.2.1), (cb bk hH.2.2.2.2.2.2.2.2.2.2.2.2.2.2.2.2.2.2.1), (cb bk hH.2.2.2.2.2.2.2.2.2.2.2.2.2.2.2.2.2.2.2.1), (cb bk hH.2.2.2.2.2.2.2.2.2.2.2.2.2.2.2.2.2.2.2.2.1), (cb bk hH.2.2.2.2.2.2.2.2.2.2.2.2.2.2.2.2.2.2.2.2.2)⟩ (fun hHeld => ?_)
 clear hK K
 refine nz (N := some 48) ?_
 refine one_ (i := 19) (N := some 50) (bz 27 1048575) rfl rfl (by kernel_rfl) (by decide) (fun K hK => ?_)
 have hH := hHeld
 refine goes_ Tryz.func44 (by kernel_rfl) rfl #[.agg #[.slice P p.length pc], .agg #[.slice Q p.length qc]] (by rfl) rfl rfl (by simp only [List.map_toArray, List.map_cons, List.map_nil]; rfl) ?_
 with_reducible refine ((HS9.out _ HK4.out)).mono ?_
 rintro e U5 ⟨rfl, bk⟩
 refine ⟨_, rfl, ?_⟩
 have HK5 := Aside0.mk (HK4.out.trans (bk.mono HK4.out.size))
 refine hK.out _ _ ⟨(cb bk hH.1), (cb bk hH.2.1), (cb bk hH.2.2.1), (cb bk hH.2.2.2.1), (cb bk hH.2.2.2.2.1), (cb bk hH.2.2.2.2.2.1), (cb bk hH.2.2.2.2.2.2.1), (cb bk hH.2.2.2.2.2.2.2.1), (cb bk hH.2.2.2.2.2.2.2.2.1), (cb bk hH.2.2.2.2.2.2.2.2.2.1), (cb bk hH.2.2.2.2.2.2.2.2.2.2.1), (cb bk hH.2.2.2.2.2.2.2.2.2.2.2.1), (cb bk hH.2.2.2.2.2.2.2.2.2.2.2.2.1), (cb bk hH.2.2.2.2.2.2.2.2.2.2.2.2.2.1), (cb bk hH.2.2.2.2.2.2.2.2.2.2.2.2.2.2.1), (cb bk hH.2.2.2.2.2.2.2.2.2.2.2.2.2.2.2.1), (cb bk hH.2.2.2.2.2.2.2.2.2.2.2.2.2.2.2.2.1), (cb bk hH.2.2.2.2.2.2.2.2.2.2.2.2.2.2.2.2.2.1), (cb bk hH.2.2.2.2.2.2.2.2.2.2.2.2.2.2.2.2.2.2.1), (cb bk hH.2.2.2.2.2.2.2.2.2.2.2.2.2.2.2.2.2.2.2.1), (cb bk hH.2.2.2.2.2.2.2.2.2.2.2.2.2.2.2.2.2.2.2.2.1), (cb bk hH.2.2.2.2.2.2.2.2.2.2.2.2.2.2.2.2.2.2.2.2.2)⟩ (fun hHeld => ?_)
 clear hK K
 refine nz (N := some 50) ?_
 refine pz (i := 20) (N := some 51) (bz 27 2097151) ?_
 refine pz (i := 21) (N := some 52) (bz 27 4194303) ?_
 refine tz (i := 22) (N := some 53) (bz 27 8388607) hHeld ?_
 refine tz (i := 23) (N := some 54) (bz 27 16777215) hHeld ?_
 refine pz (i := 24) (N := some 55) (bz 27 33554431) ?_
 refine pz (i := 25) (N := some 56) (bz 27 67108863) ?_
 refine pz (i := 26) (N := some 2) (bz 27 134217727) ?_
 refine done_ (by kernel_rfl) ?_
 go_wp2_with fail
 go_ret
 exact ⟨rfl, HBW.out.trans (HK5.out.mono HBW.out.size)⟩
end Go.Proofs.YtofklpphalalhaaGreatDoor
