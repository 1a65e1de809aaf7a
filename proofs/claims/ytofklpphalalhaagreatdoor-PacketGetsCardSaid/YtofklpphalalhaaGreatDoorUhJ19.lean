/- Texts of this claim, joined: GivenR, GivenS. Each as it was, cut to what the claim uses. Conditions: each theorem's own. -/
import Derived.Test.YtofklpphalalhaaGreatDoorUhJ1
import Derived.Test.YtofklpphalalhaaGreatDoorUhJ18
section
namespace Go.Proofs.YtofklpphalalhaaGreatDoor
set_option linter.unusedVariables false
set_option linter.unusedSimpArgs false
open Go.RowKit Go.Proofs.YtofklpphalalhaaGreatDoor.PAll Go.Proofs.YtofklpphalalhaaGreatDoorW.PrintWords Go.Proofs.YtofklpphalalhaaGreatDoorW.PrintLast Go.Proofs.YtofklpphalalhaaGreatDoorW.PrintMore
namespace Pp
def nums (d : S71) : List Int := [d.f0, d.f1, d.f2, d.f3, d.f4, d.f5, d.f6]
def nodes (l : List S71) : List UInt8 := l.flatMap fun d => ints (nums d)
def inst (x : Cn.In) : List UInt8 := [69, 80, 84, 1] ++ Pk.putT x.nm.data.toList ++ ints [x.kind, x.metric, x.scale, x.cap, x.fleet] ++ Pk.putUI x.nodes.length ++ nodes x.nodes ++ list x.mx
def plan (rs : List (List Int)) : List UInt8 := [69, 80, 84, 2] ++ Pk.putUI rs.length ++ rs.flatMap list
theorem nodes_len (l : List S71) : (nodes l).length ≤ 63 * l.length := by
  induction l with
  | nil => simp [nodes]
  | cons x l ih =>
    have h : (ints (nums x)).length ≤ 63 := by have := ints_len (nums x); simpa [nums] using this
    unfold nodes at ih ⊢
    rw [List.flatMap_cons, List.length_append, List.length_cons]
    omega
theorem nodes_take (l : List S71) (k : Nat) (hk : k < l.length) : nodes (l.take (k + 1)) = nodes (l.take k) ++ ints (nums (rd_T71 l k)) := by
 unfold nodes rd_T71
 rw [List.take_succ_eq_append_getElem hk, List.flatMap_append, Int.toNat_natCast, List.getD_eq_getElem?_getD, List.getElem?_eq_getElem hk]
 simp
theorem lists_len (rs : List (List Int)) (h : ∀ r ∈ rs, r.length < 9223372036854775808) : (rs.flatMap list).length ≤ 9 * rs.length + 9 * (rs.map List.length).sum := by
  induction rs with
  | nil => simp
  | cons r rs ih =>
    have h0 := ih (fun r hr => h r (by simp [hr]))
    have h1 := ints_len r
    have h2 := putUI_len r.length (by have := h r (by simp); omega)
    rw [List.flatMap_cons, List.length_append, List.length_cons, List.map_cons, List.sum_cons]
    unfold list at *
    rw [List.length_append]; omega
theorem lists_take (rs : List (List Int)) (k : Nat) (hk : k < rs.length) : (rs.take (k + 1)).flatMap list = (rs.take k).flatMap list ++ list (rd_L4 rs k) := by
 unfold rd_L4
 rw [List.take_succ_eq_append_getElem hk, List.flatMap_append, Int.toNat_natCast, List.getD_eq_getElem?_getD, List.getElem?_eq_getElem hk]
 simp
theorem sum_take (rs : List (List Int)) (k : Nat) : ((rs.take k).map List.length).sum ≤ (rs.map List.length).sum := by
 conv => rhs; rw [← List.take_append_drop k rs, List.map_append, List.sum_append]
 omega
theorem sum_next (rs : List (List Int)) (k : Nat) (hk : k < rs.length) : ((rs.take (k + 1)).map List.length).sum = ((rs.take k).map List.length).sum + (rd_L4 rs k).length := by
 unfold rd_L4
 rw [List.take_succ_eq_append_getElem hk, List.map_append, List.sum_append, Int.toNat_natCast, List.getD_eq_getElem?_getD, List.getElem?_eq_getElem hk]
 simp
theorem mem_sum (rs : List (List Int)) : ∀ r ∈ rs, r.length ≤ (rs.map List.length).sum := by
  induction rs with
  | nil => simp
  | cons a rs ih =>
    intro r hr
    rw [List.map_cons, List.sum_cons]
    rcases List.mem_cons.1 hr with rfl | h
    · omega
    · have := ih r h; omega
end Pp
theorem C_of_block {w : World} {n t : Nat} {fr : Nat × Nat} {l : List Int} (h : w.heap[n]? = some (.cells (l.map (Value.int .i64)).toArray t fr)) (hl : l.length ≤ 9223372036854775807) : Kd.C (Kd.int .i64) w (some ⟨n, 0, none⟩) l.length l := by
  refine ⟨rfl, hl, fun _ => ⟨_, rfl, fun j p hp => ⟨[.int .i64 p], rfl, rfl, fun i u hu => ?_⟩⟩⟩
  have hj := (List.getElem?_eq_some_iff.1 hp).1
  match i, hu with
  | 0, hu =>
    obtain rfl : Value.int .i64 p = u := by simpa using hu
    show w.cell? ((⟨n, 0, none⟩ : Addr).add (j * 1 + 0)) = _
    rw [Addr.add_lit, Lib.cell_of_heap h]
    simp [hp]
/-- What Put has: the box (block B of w1), and the writer behind it. -/
def PS (w1 : World) (b : Nat) (l : List UInt8) (W : World) : Prop := Wr b b l W ∧ Below b w1 W
section
variable {w1 W W' : World} {b : Nat} {l : List UInt8}
theorem PS.drew (h : PS w1 b l W) : PS w1 b l W.drew := ⟨h.1, h.2.drew⟩
theorem PS.base (h : PS w1 b l W) : b ≤ W.heap.size := h.1.base_le
theorem PS.below (h : PS w1 b l W) (hb : Below W.heap.size W W') : PS w1 b l W' := ⟨h.1.below hb, h.2.trans (hb.mono h.base)⟩
theorem PS.write (h : PS w1 b l W) {s : List UInt8} (hw : Bld 124 [] b b (Lib.byteCells l ++ Lib.strCells (Evs.S s)) W') (hb : Below b W W') : PS w1 b (l ++ s) W' := ⟨by
 rw [Lib.strCells_eq, Evs.S_data, ← Lib.byteCells_append] at hw
 exact hw, h.2.trans hb⟩
theorem PS.wr (h : PS w1 b l W) : Wr b b l W := And.left h
theorem PS.bl (h : PS w1 b l W) : Below b w1 W := And.right h
theorem PS.next (h : PS w1 b l W) {s : List UInt8} (hw : Wr b b s W') (hb : Below b W W') : PS w1 b s W' := ⟨hw, h.2.trans hb⟩
theorem PS.cell (h : PS w1 b l W) {B : Nat} (hB : B < b) {cs : Array Value} {t : Nat} (hbx : w1.heap[B]? = some (.cells cs t (0, 0))) (j : Nat) (v : Value) (hj : cs[j]? = some v) : W.cell? ⟨B, j, none⟩ = some v := by
 have h1 : W.heap[B]? = some (.cells cs t (0, 0)) := (h.2.block B hB).trans hbx
 rw [Lib.cell_of_heap h1]; exact hj
end
theorem kept_lit {b n : Nat} {W W' : World} {cs : Array Value} (hk : Kp b W W') (h : W.heap[n]? = some (.cells cs 3 (0, 0))) (hne : n ≠ b) : W'.heap[n]? = some (.cells cs 3 (0, 0)) := hk n _ h hne (fun c e => by simp at e)
set_option maxRecDepth 100000 in
set_option maxHeartbeats 8000000 in
theorem put_walk (x : Cn.In) (A6 A7 : Option Addr) (c6 c7 : Nat) (w : World) (HT : Tab w) (hnm : x.nm.size ≤ 1000000000) (h6 : x.nodes.length ≤ 1000000000) (h7 : x.mx.length ≤ 1000000000) (hC6 : Kd.C k71 w A6 x.nodes.length x.nodes) (hC7 : Kd.C (Kd.int .i64) w A7 x.mx.length x.mx) :
  Calls Tryz.prog 27 #[inV x (.slice A6 x.nodes.length c6) (.slice A7 x.mx.length c7)] w fun e w' => e = .returned (.string (Evs.S (Pk.shut (Pp.inst x)))) ∧ Below w.heap.size w w' := by
 have hnm2 : x.nm.data.toList.length ≤ 1000000000 := by rw [Evs.size_len]; omega
 replace hnm : x.nm.size ≤ 140737488351232 := by omega
 obtain ⟨F, hF⟩ : ∃ F, Pp.inst x = F := ⟨_, rfl⟩
 rw [hF]
 have HF := Aside0.mk hF
 have HC6 := Aside0.mk hC6
 have HC7 := Aside0.mk hC7
 replace HT := Aside0.mk HT
 have hBG := begun_walk 1 (w.alloc (inB x (.slice A6 x.nodes.length c6) (.slice A7 x.mx.length c7)))
 have hb' : (w.alloc (inB x (.slice A6 x.nodes.length c6) (.slice A7 x.mx.length c7))).heap.size = w.heap.size + 1 := by simp
 rw [hb'] at hBG
 have hbx : Aside0 ((w.alloc (inB x (.slice A6 x.nodes.length c6) (.slice A7 x.mx.length c7))).heap[w.heap.size]? = some (inB x (.slice A6 x.nodes.length c6) (.slice A7 x.mx.length c7))) := ⟨Array.getElem?_push_size⟩
 have HBG := Aside0.mk hBG
 have HWB : Aside0 (∀ W, Below (w.heap.size + 1) (w.alloc (inB x (.slice A6 x.nodes.length c6) (.slice A7 x.mx.length c7))) W → Below w.heap.size w W) := ⟨fun W h => (below_one w _).trans (h.mono (by omega))⟩
 clear hC6 hC7 hF hBG
 go_enter Tryz.func27, Tryz.ntmps27
 go_wp2_with fail
 refine HBG.out.mono ?_
 rintro e V0 ⟨rfl, hw0, hb0⟩
 have HP0 : Aside0 (PS _ (w.heap.size + 1) [69, 80, 84, 1] V0) := ⟨⟨hw0, hb0⟩⟩
 clear hw0 hb0 HBG
 have d0 := HP0.out.cell (by omega) hbx.out 0 _ rfl
 have hw1 : Aside0 ((Lib.byteCells [69, 80, 84, 1]).length + (Evs.S (Pk.putT x.nm.data.toList)).size ≤ 140737488355328) := ⟨by
  rw [Lib.byteCells_length, Evs.S_size]; unfold Pk.putT
  have := Evs.putU_len9 x.nm.data.toList.length (by omega)
  rw [List.length_append, show ([69, 80, 84, 1] : List UInt8).length = 4 from rfl]; omega⟩
 go_wp2_with fail
 refine start_ (n := 7) (S := fun w' => w'.cell? ⟨w.heap.size, 0, none⟩ = some (.string x.nm)) (ds := [6]) #[false, false, false, false, false, false, false] (by kernel_rfl) rfl rfl (d0) (fun hHeld => ?_)
 refine pz (i := 0) (N := some 7) (bz 7 1) ?_
 refine pz (i := 1) (N := some 8) (bz 7 3) ?_
 refine pz (i := 2) (N := some 9) (bz 7 7) ?_
 refine pz (i := 3) (N := some 10) (bz 7 15) ?_
 refine tz (i := 4) (N := some 11) (bz 7 31) hHeld ?_
 refine one_ (i := 5) (N := some 12) (bz 7 63) rfl rfl (by kernel_rfl) (by decide) (fun K hK => ?_)
 refine goes_ Tryz.func75 (by kernel_rfl) rfl #[.string x.nm] (by rfl) rfl rfl (by simp only [List.map_toArray, List.map_cons, List.map_nil]; rfl) ?_
 with_reducible refine ((putText_calls x.nm hnm _)).mono ?_
 rintro e V1 ⟨rfl, hb1⟩
 refine ⟨_, rfl, ?_⟩
 have HV1 := Aside0.mk (HP0.out.drew.below hb1)
 have e0 := HV1.out.cell (by omega) hbx.out 0 _ rfl
 clear hb1
 refine hK.out _ _ (e0) (fun hHeld => ?_)
 clear hK K
 refine nz (N := some 12) ?_
 refine last_ (i := 6) (N := some 13) (bz 7 127) rfl rfl (by kernel_rfl) (by decide) (fun K hK => ?_)
 refine goes_ Tryz.func74 (by kernel_rfl) rfl #[.pointer (some ⟨w.heap.size + 1, 0, none⟩), .string (Evs.S (Pk.putT x.nm.data.toList))] (by rfl) rfl rfl (by simp only [List.map_toArray, List.map_cons, List.map_nil]; rfl) ?_
 with_reducible refine ((wr_write HV1.out.wr (Evs.S (Pk.putT x.nm.data.toList)) hw1.out)).mono ?_
 rintro e V2 ⟨rfl, hw, hb2, hk2⟩
 refine ⟨_, rfl, ?_⟩
 have HP1 := Aside0.mk (PS.write HV1.out hw hb2)
 clear hw hb2 hk2
 refine hK.out _ _ ?_
 clear hK K
 refine nz (N := some 13) ?_
 refine done_ (by kernel_rfl) ?_
 obtain ⟨l1, hl1⟩ : ∃ l, [69, 80, 84, 1] ++ Pk.putT x.nm.data.toList = l := ⟨_, rfl⟩
 have hl1n : l1.length ≤ 2000000000 := by
  rw [← hl1, List.length_append]; unfold Pk.putT
  have := Evs.putU_len9 x.nm.data.toList.length (by omega)
  rw [List.length_append, show ([69, 80, 84, 1] : List UInt8).length = 4 from rfl]; omega
 rw [hl1] at HP1
 replace hl1 := Aside0.mk hl1
 clear HP0 HV1 d0 e0 hw1
 obtain ⟨g1, g2, g3, g4, g5⟩ : V2.cell? ⟨w.heap.size, 1, none⟩ = some (.int .i64 x.kind) ∧ V2.cell? ⟨w.heap.size, 2, none⟩ = some (.int .i64 x.metric) ∧ V2.cell? ⟨w.heap.size, 3, none⟩ = some (.int .i64 x.scale) ∧ V2.cell? ⟨w.heap.size, 4, none⟩ = some (.int .i64 x.cap) ∧ V2.cell? ⟨w.heap.size, 5, none⟩ = some (.int .i64 x.fleet) := ⟨HP1.out.cell (by omega) hbx.out 1 _ rfl, HP1.out.cell (by omega) hbx.out 2 _ rfl, HP1.out.cell (by omega) hbx.out 3 _ rfl, HP1.out.cell (by omega) hbx.out 4 _ rfl, HP1.out.cell (by omega) hbx.out 5 _ rfl⟩
 have hlt : (V2.alloc (.cells #[.int .i64 x.kind, .int .i64 x.metric, .int .i64 x.scale, .int .i64 x.cap, .int .i64 x.fleet] 3)).heap[V2.heap.size]? = some (.cells #[.int .i64 x.kind, .int .i64 x.metric, .int .i64 x.scale, .int .i64 x.cap, .int .i64 x.fleet] 3) := Array.getElem?_push_size
 have HP1' := HP1.out.below (below_one V2 (.cells #[.int .i64 x.kind, .int .i64 x.metric, .int .i64 x.scale, .int .i64 x.cap, .int .i64 x.fleet] 3))
 have hV2 : V2.heap.size ≠ w.heap.size + 1 := fun e => by
  have := HP1.out.wr
  obtain ⟨_, p, v, _, hk, _⟩ := this
  have := (Array.getElem?_eq_some_iff.1 hk).1
  omega
 have hin := ints_walk (w.heap.size + 1) (w.heap.size + 1) l1 (some ⟨V2.heap.size, 0, none⟩) 5 [x.kind, x.metric, x.scale, x.cap, x.fleet] _ HP1'.wr (by simp; omega) (fun w' _ hk => C_of_block (l := [x.kind, x.metric, x.scale, x.cap, x.fleet]) (kept_lit hk hlt hV2) (by simp))
 have HIN := Aside0.mk hin
 have HP1A := Aside0.mk HP1'
 clear hin hlt HP1' hV2
 go_wp2_with fail
 refine HIN.out.mono ?_
 rintro e V3 ⟨rfl, hw, hb3, hk3⟩
 have HP2 := Aside0.mk (HP1A.out.next hw hb3)
 clear hw hb3 hk3 HIN HP1A HP1 g1 g2 g3 g4 g5
 obtain ⟨l2, hl2⟩ : ∃ l, l1 ++ Pp.ints [x.kind, x.metric, x.scale, x.cap, x.fleet] = l := ⟨_, rfl⟩
 have hl2n : l2.length ≤ 2000000045 := by
  rw [← hl2, List.length_append]
  have := Pp.ints_len [x.kind, x.metric, x.scale, x.cap, x.fleet]
  simp at this; omega
 rw [hl2] at HP2
 replace hl2 := Aside0.mk hl2
 have d6 := HP2.out.cell (by omega) hbx.out 6 _ rfl
 have hun := Pp.putUI_len x.nodes.length (by omega)
 have hw3 : Aside0 ((Lib.byteCells l2).length + (Evs.S (Pk.putUI x.nodes.length)).size ≤ 140737488355328) := ⟨by
  rw [Lib.byteCells_length, Evs.S_size]; omega⟩
 go_wp2_with fail
 refine start_ (n := 8) (S := fun w' => w'.cell? ⟨w.heap.size, 6, none⟩ = some (.slice A6 x.nodes.length c6)) (ds := [7]) #[false, false, false, false, false, false, false, false] (by kernel_rfl) rfl rfl (d6) (fun hHeld => ?_)
 refine pz (i := 0) (N := some 27) (bz 8 1) ?_
 refine pz (i := 1) (N := some 28) (bz 8 3) ?_
 refine pz (i := 2) (N := some 29) (bz 8 7) ?_
 refine pz (i := 3) (N := some 30) (bz 8 15) ?_
 refine tz (i := 4) (N := some 31) (bz 8 31) hHeld ?_
 refine pz (i := 5) (N := some 32) (bz 8 63) ?_
 refine one_ (i := 6) (N := some 33) (bz 8 127) rfl rfl (by kernel_rfl) (by decide) (fun K hK => ?_)
 refine goes_ Tryz.func77 (by kernel_rfl) rfl #[.int .i64 x.nodes.length] (by rfl) rfl rfl (by simp only [List.map_toArray, List.map_cons, List.map_nil]; rfl) ?_
 with_reducible refine ((putUint_calls x.nodes.length (by omega) _)).mono ?_
 rintro e V4 ⟨rfl, hb1⟩
 refine ⟨_, rfl, ?_⟩
 have HV4 := Aside0.mk (HP2.out.drew.below hb1)
 have e6 := HV4.out.cell (by omega) hbx.out 6 _ rfl
 clear hb1
 refine hK.out _ _ (e6) (fun hHeld => ?_)
 clear hK K
 refine nz (N := some 33) ?_
 refine last_ (i := 7) (N := some 34) (bz 8 255) rfl rfl (by kernel_rfl) (by decide) (fun K hK => ?_)
 refine goes_ Tryz.func74 (by kernel_rfl) rfl #[.pointer (some ⟨w.heap.size + 1, 0, none⟩), .string (Evs.S (Pk.putUI x.nodes.length))] (by rfl) rfl rfl (by simp only [List.map_toArray, List.map_cons, List.map_nil]; rfl) ?_
 with_reducible refine ((wr_write HV4.out.wr (Evs.S (Pk.putUI x.nodes.length)) hw3.out)).mono ?_
 rintro e V5 ⟨rfl, hw, hb2, hk2⟩
 refine ⟨_, rfl, ?_⟩
 have HP3 := Aside0.mk (PS.write HV4.out hw hb2)
 clear hw hb2 hk2
 refine hK.out _ _ ?_
 clear hK K
 refine nz (N := some 34) ?_
 refine done_ (by kernel_rfl) ?_
 obtain ⟨l3, hl3⟩ : ∃ l, l2 ++ Pk.putUI x.nodes.length = l := ⟨_, rfl⟩
 have hl3n : l3.length ≤ 2000000054 := by rw [← hl3, List.length_append]; omega
 rw [hl3] at HP3
 replace hl3 := Aside0.mk hl3
 clear HP2 HV4 d6 e6 hw3 hun
 have d6 := HP3.out.cell (by omega) hbx.out 6 _ rfl
 have HL0 : Aside0 (PS (w.alloc (inB x (.slice A6 x.nodes.length c6) (.slice A7 x.mx.length c7))) (w.heap.size + 1) (l3 ++ Pp.nodes (x.nodes.take 0)) V5) := ⟨by simpa [Pp.nodes] using HP3.out⟩
 go_wp2_with fail
 go_loopw [38] (fun v wr => ∃ k : Nat, k ≤ x.nodes.length ∧ v = .int .i64 k ∧ PS (w.alloc (inB x (.slice A6 x.nodes.length c6) (.slice A7 x.mx.length c7))) (w.heap.size + 1) (l3 ++ Pp.nodes (x.nodes.take k)) wr) (fun v _ => x.nodes.length - (intOf v).toNat)
 case atStart => exact ⟨0, Nat.zero_le _, rfl, HL0.out⟩
 case round =>
  clear HL0 d6 HP3
  obtain ⟨k, hk, rfl, hs⟩ := hrel
  have HS := Aside0.mk hs
  clear hs
  by_cases hlt : k < x.nodes.length
  ·have hdl : (k : Int) < (x.nodes.length : Int) := by omega
   obtain ⟨ad, e, x0, x1, x2, x3, x4, x5, x6⟩ := at_T71 (Kd.C_below HC6.out (HWB.out _ HS.out.bl)) (k : Int) (by omega) (by omega)
   subst e
   simp only [Int.toNat_natCast] at x0 x1 x2 x3 x4 x5 x6
   have hnx := Pp.nodes_take x.nodes k hlt
   obtain ⟨d, hd⟩ : ∃ d, rd_T71 x.nodes k = d := ⟨_, rfl⟩
   rw [hd] at x0 x1 x2 x3 x4 x5 x6 hnx
   have HNX := Aside0.mk hnx
   have hbd := below_two wr (.cells #[.int .i64 d.f0, .int .i64 d.f1, .int .i64 d.f2, .int .i64 d.f3, .int .i64 d.f4, .int .i64 d.f5, .int .i64 d.f6] 71) (.cells #[.int .i64 d.f0, .int .i64 d.f1, .int .i64 d.f2, .int .i64 d.f3, .int .i64 d.f4, .int .i64 d.f5, .int .i64 d.f6] 3)
   have htb := (two_blocks wr (.cells #[.int .i64 d.f0, .int .i64 d.f1, .int .i64 d.f2, .int .i64 d.f3, .int .i64 d.f4, .int .i64 d.f5, .int .i64 d.f6] 71) (.cells #[.int .i64 d.f0, .int .i64 d.f1, .int .i64 d.f2, .int .i64 d.f3, .int .i64 d.f4, .int .i64 d.f5, .int .i64 d.f6] 3)).2
   have HS2 := HS.out.below hbd
   have hne : wr.heap.size + 1 ≠ w.heap.size + 1 := by have := HS.out.base; omega
   have hin := ints_walk (w.heap.size + 1) (w.heap.size + 1) _ (some ⟨wr.heap.size + 1, 0, none⟩) 7 (Pp.nums d) _ HS2.wr (by
    have h1 := Pp.nodes_len (x.nodes.take k)
    rw [List.length_append]
    rw [List.length_take] at h1
    simp [Pp.nums]; omega) (fun w' _ hk => C_of_block (l := Pp.nums d) (kept_lit hk htb hne) (by simp [Pp.nums]))
   have HIN := Aside0.mk hin
   have HS2A := Aside0.mk HS2
   clear hd hnx hin htb hbd HS2 hne
   go_wp2_with fail
   refine HIN.out.mono ?_
   rintro e V7 ⟨rfl, hw, hb3, hk3⟩
   have HE : Aside0 (PS _ (w.heap.size + 1) (l3 ++ Pp.nodes (x.nodes.take (k + 1))) V7) := ⟨by rw [HNX.out, ← List.append_assoc]; exact HS2A.out.next hw hb3⟩
   clear hw hb3 hk3 HIN HS2A HNX HS x0 x1 x2 x3 x4 x5 x6
   go_wp2_with fail
   go_roundw
   case rel => exact ⟨k + 1, by omega, by go_num, HE.out⟩
   case measure => simp [intOf]; omega
  ·have hdl : ¬ ((k : Int) < (x.nodes.length : Int)) := by omega
   have hS := HS.out
   rw [List.take_of_length_le (by omega)] at hS
   obtain ⟨l4, hl4⟩ : ∃ l, l3 ++ Pp.nodes x.nodes = l := ⟨_, rfl⟩
   have hl4n : l4.length ≤ 70000000000 := by
    rw [← hl4, List.length_append]
    have := Pp.nodes_len x.nodes
    omega
   rw [hl4] at hS
   replace hl4 := Aside0.mk hl4
   have HP4 := Aside0.mk hS
   have d7 := HP4.out.cell (by omega) hbx.out 7 _ rfl
   have hin := list_walk (w.heap.size + 1) (w.heap.size + 1) l4 A7 c7 x.mx wr HP4.out.wr (by omega) (fun w' h1 _ => Kd.C_below HC7.out (HWB.out _ (HP4.out.bl.trans h1)))
   have HIN := Aside0.mk hin
   clear hS HS hin
   go_wp2_with fail
   refine HIN.out.mono ?_
   rintro e V8 ⟨rfl, hw, hb3, hk3⟩
   have HP5 := Aside0.mk (HP4.out.next hw hb3)
   have hfe : l4 ++ Pp.list x.mx = F := by
    rw [← HF.out, ← hl4.out, ← hl3.out, ← hl2.out, ← hl1.out]; rfl
   rw [hfe] at HP5
   have hFn : F.length ≤ 80000000000 := by
    rw [← hfe, List.length_append]; unfold Pp.list
    have h1 := Pp.ints_len x.mx
    have h2 := Pp.putUI_len x.mx.length (by omega)
    rw [List.length_append]; omega
   have hF0 : F ≠ [] := by rw [← HF.out]; unfold Pp.inst; simp
   have hsl := sealed_walk (w.heap.size + 1) (w.heap.size + 1) F V8 HP5.out.wr hF0 (by omega) (fun w' h => HT.out.below (HWB.out _ (HP5.out.bl.trans h)))
   have HSL := Aside0.mk hsl
   clear hsl hw hb3 hk3 HIN HP4 d7 hfe
   go_wp2_with fail
   refine HSL.out.mono ?_
   rintro e V9 ⟨rfl, hb9⟩
   have HE := Aside0.mk (HWB.out _ (HP5.out.bl.trans hb9))
   clear hb9 HSL HP5
   go_wp2_with fail
   go_ret
   exact ⟨rfl, HE.out⟩
set_option maxRecDepth 100000 in
set_option maxHeartbeats 8000000 in
theorem putPlan_walk (rs : List (List Int)) (A : Option Addr) (c : Nat) (w : World) (HT : Tab w) (hn : rs.length ≤ 1000000000) (hm : (rs.map List.length).sum ≤ 1000000000) (hC : Kd.C (Kd.slice 3 (Kd.int .i64)) w A rs.length rs) :
  Calls Tryz.prog 30 #[.agg #[.slice A rs.length c]] w fun e w' => e = .returned (.string (Evs.S (Pk.shut (Pp.plan rs)))) ∧ Below w.heap.size w w' := by
 obtain ⟨F, hF⟩ : ∃ F, Pp.plan rs = F := ⟨_, rfl⟩
 rw [hF]
 have HF := Aside0.mk hF
 have HCC := Aside0.mk hC
 replace HT := Aside0.mk HT
 have hBG := begun_walk 2 (w.alloc (.cells #[.slice A rs.length c] 28))
 have hb' : (w.alloc (.cells #[.slice A rs.length c] 28)).heap.size = w.heap.size + 1 := by simp
 rw [hb'] at hBG
 have hbx : Aside0 ((w.alloc (.cells #[.slice A rs.length c] 28)).heap[w.heap.size]? = some (.cells #[.slice A rs.length c] 28)) := ⟨Array.getElem?_push_size⟩
 have HBG := Aside0.mk hBG
 have HWB : Aside0 (∀ W, Below (w.heap.size + 1) (w.alloc (.cells #[.slice A rs.length c] 28)) W → Below w.heap.size w W) := ⟨fun W h => (below_one w _).trans (h.mono (by omega))⟩
 clear hC hF hBG
 go_enter Tryz.func30, Tryz.ntmps30
 go_wp2_with fail
 refine HBG.out.mono ?_
 rintro e V0 ⟨rfl, hw0, hb0⟩
 have HP0 : Aside0 (PS _ (w.heap.size + 1) [69, 80, 84, 2] V0) := ⟨⟨hw0, hb0⟩⟩
 clear hw0 hb0 HBG
 have d0 := HP0.out.cell (by omega) hbx.out 0 _ rfl
 have hun := Pp.putUI_len rs.length (by omega)
 have hw3 : Aside0 ((Lib.byteCells [69, 80, 84, 2]).length + (Evs.S (Pk.putUI rs.length)).size ≤ 140737488355328) := ⟨by
  rw [Lib.byteCells_length, Evs.S_size]; simp; omega⟩
 go_wp2_with fail
 refine start_ (n := 8) (S := fun w' => w'.cell? ⟨w.heap.size, 0, none⟩ = some (.slice A rs.length c)) (ds := [7]) #[false, false, false, false, false, false, false, false] (by kernel_rfl) rfl rfl (d0) (fun hHeld => ?_)
 refine pz (i := 0) (N := some 7) (bz 8 1) ?_
 refine pz (i := 1) (N := some 8) (bz 8 3) ?_
 refine pz (i := 2) (N := some 9) (bz 8 7) ?_
 refine pz (i := 3) (N := some 10) (bz 8 15) ?_
 refine tz (i := 4) (N := some 11) (bz 8 31) hHeld ?_
 refine pz (i := 5) (N := some 12) (bz 8 63) ?_
 refine one_ (i := 6) (N := some 13) (bz 8 127) rfl rfl (by kernel_rfl) (by decide) (fun K hK => ?_)
 refine goes_ Tryz.func77 (by kernel_rfl) rfl #[.int .i64 rs.length] (by rfl) rfl rfl (by simp only [List.map_toArray, List.map_cons, List.map_nil]; rfl) ?_
 with_reducible refine ((putUint_calls rs.length (by omega) _)).mono ?_
 rintro e V4 ⟨rfl, hb1⟩
 refine ⟨_, rfl, ?_⟩
 have HV4 := Aside0.mk (HP0.out.drew.below hb1)
 have e0 := HV4.out.cell (by omega) hbx.out 0 _ rfl
 clear hb1
 refine hK.out _ _ (e0) (fun hHeld => ?_)
 clear hK K
 refine nz (N := some 13) ?_
 refine last_ (i := 7) (N := some 14) (bz 8 255) rfl rfl (by kernel_rfl) (by decide) (fun K hK => ?_)
 refine goes_ Tryz.func74 (by kernel_rfl) rfl #[.pointer (some ⟨w.heap.size + 1, 0, none⟩), .string (Evs.S (Pk.putUI rs.length))] (by rfl) rfl rfl (by simp only [List.map_toArray, List.map_cons, List.map_nil]; rfl) ?_
 with_reducible refine ((wr_write HV4.out.wr (Evs.S (Pk.putUI rs.length)) hw3.out)).mono ?_
 rintro e V5 ⟨rfl, hw, hb2, hk2⟩
 refine ⟨_, rfl, ?_⟩
 have HP3 := Aside0.mk (PS.write HV4.out hw hb2)
 clear hw hb2 hk2
 refine hK.out _ _ ?_
 clear hK K
 refine nz (N := some 14) ?_
 refine done_ (by kernel_rfl) ?_
 obtain ⟨l3, hl3⟩ : ∃ l, [69, 80, 84, 2] ++ Pk.putUI rs.length = l := ⟨_, rfl⟩
 have hl3n : l3.length ≤ 20 := by rw [← hl3, List.length_append]; simp; omega
 rw [hl3] at HP3
 replace hl3 := Aside0.mk hl3
 clear HP0 HV4 d0 e0 hw3 hun
 have d0 := HP3.out.cell (by omega) hbx.out 0 _ rfl
 have HL0 : Aside0 (PS (w.alloc (.cells #[.slice A rs.length c] 28)) (w.heap.size + 1) (l3 ++ (rs.take 0).flatMap Pp.list) V5) := ⟨by simpa using HP3.out⟩
 go_wp2_with fail
 go_loopw [18] (fun v wr => ∃ k : Nat, k ≤ rs.length ∧ v = .int .i64 k ∧ PS (w.alloc (.cells #[.slice A rs.length c] 28)) (w.heap.size + 1) (l3 ++ (rs.take k).flatMap Pp.list) wr) (fun v _ => rs.length - (intOf v).toNat)
 case atStart => exact ⟨0, Nat.zero_le _, rfl, HL0.out⟩
 case round =>
  clear HL0 d0 HP3
  obtain ⟨k, hk, rfl, hs⟩ := hrel
  have HS := Aside0.mk hs
  have hlw := Pp.lists_len (rs.take k) (fun r hr => by have := Pp.mem_sum rs r (List.mem_of_mem_take hr); omega)
  have hsm := Pp.sum_take rs k
  rw [List.length_take] at hlw
  clear hs
  by_cases hlt : k < rs.length
  ·have hdl : (k : Int) < (rs.length : Int) := by omega
   obtain ⟨ad, A0, c0, e, x0w, hc0, hC0⟩ := at_L4 HCC.out (k : Int) (by omega) (by omega)
   subst e
   simp only [Int.toNat_natCast] at x0w
   have x0 : wr.cell? (ad.add k) = _ := ((HWB.out _ HS.out.bl).cell (World.block_lt_of_cell? w _ x0w)).trans x0w
   have hnx := Pp.lists_take rs k hlt
   have hsm2 := Pp.sum_take rs (k + 1)
   have hsm3 := Pp.sum_next rs k hlt
   obtain ⟨r, hr⟩ : ∃ r, rd_L4 rs k = r := ⟨_, rfl⟩
   rw [hr] at x0 hc0 hC0 hnx hsm3
   have HNX := Aside0.mk hnx
   have hrn : r.length ≤ 1000000000 := by omega
   have HC0 := Aside0.mk hC0
   have hin := list_walk (w.heap.size + 1) (w.heap.size + 1) _ A0 c0 r wr HS.out.wr (by
    rw [List.length_append]
    omega) (fun w' h1 _ => Kd.C_below HC0.out (HWB.out _ (HS.out.bl.trans h1)))
   have HIN := Aside0.mk hin
   clear hin x0w hC0 hnx hr
   go_wp2_with fail
   refine HIN.out.mono ?_
   rintro e V7 ⟨rfl, hw, hb3, hk3⟩
   have HE : Aside0 (PS _ (w.heap.size + 1) (l3 ++ (rs.take (k + 1)).flatMap Pp.list) V7) := ⟨by rw [HNX.out, ← List.append_assoc]; exact HS.out.next hw hb3⟩
   clear hw hb3 hk3 HIN HNX HS x0
   go_wp2_with fail
   go_roundw
   case rel => exact ⟨k + 1, by omega, by go_num, HE.out⟩
   case measure => simp [intOf]; omega
  ·have hdl : ¬ ((k : Int) < (rs.length : Int)) := by omega
   have hS := HS.out
   rw [List.take_of_length_le (by omega)] at hS
   have HP5 := Aside0.mk hS
   have hfe : l3 ++ rs.flatMap Pp.list = F := by
    rw [← HF.out, ← hl3.out]; rfl
   rw [hfe] at HP5
   have hFn : F.length ≤ 80000000000 := by
    rw [← hfe, List.length_append]
    have h1 := Pp.lists_len rs (fun r hr => by have := Pp.mem_sum rs r hr; omega)
    omega
   have hF0 : F ≠ [] := by rw [← HF.out]; unfold Pp.plan; simp
   have hsl := sealed_walk (w.heap.size + 1) (w.heap.size + 1) F wr HP5.out.wr hF0 (by omega) (fun w' h => HT.out.below (HWB.out _ (HP5.out.bl.trans h)))
   have HSL := Aside0.mk hsl
   clear hsl hS HS hfe
   go_wp2_with fail
   refine HSL.out.mono ?_
   rintro e V9 ⟨rfl, hb9⟩
   have HE := Aside0.mk (HWB.out _ (HP5.out.bl.trans hb9))
   clear hb9 HSL HP5
   go_wp2_with fail
   go_ret
   exact ⟨rfl, HE.out⟩
end Go.Proofs.YtofklpphalalhaaGreatDoor
end
section
namespace Go.Proofs.YtofklpphalalhaaGreatDoor
set_option linter.unusedVariables false
set_option linter.unusedSimpArgs false
open Go.RowKit Go.Proofs.YtofklpphalalhaaGreatDoor.PAll Go.Proofs.YtofklpphalalhaaGreatDoorW.PrintWords Go.Proofs.YtofklpphalalhaaGreatDoorW.PrintLast Go.Proofs.YtofklpphalalhaaGreatDoorW.PrintMore
namespace Rr
/-- Where a reader is, and what went wrong: at, place, code. -/
structure St where
 p : Int
 a : Int
 c : Int
def gi (s : ByteArray) (p : Int) : Int × Int × Int := Evs.t3i (Pk.getI s.data.toList p)
def gu (s : ByteArray) (p : Int) : Int × Int × Int := Evs.t3 (Pk.getU s.data.toList p)
def gt (s : ByteArray) (p : Int) : ByteArray × Int × Int := Evs.t3t (Pk.getT s.data.toList p)
def number (take : Int → Int × Int × Int) (st : St) : Int × St :=
 if st.c = 0 then (if (take st.p).2.2 = 0 then ((take st.p).1, ⟨(take st.p).2.1, st.a, st.c⟩) else (0, ⟨st.p, st.p, (take st.p).2.2⟩)) else (0, st)
def num (s : ByteArray) (st : St) : Int × St := number (gi s) st
def count (s : ByteArray) (st : St) : Int × St :=
 if (number (gu s) st).2.c = 0 ∧ (s.size : Int) - (number (gu s) st).2.p < (number (gu s) st).1 then (0, ⟨(number (gu s) st).2.p, st.p, 211⟩) else number (gu s) st
def text (s : ByteArray) (st : St) : ByteArray × St :=
 if st.c = 0 then (if (gt s st.p).2.2 = 0 then ((gt s st.p).1, ⟨(gt s st.p).2.1, st.a, st.c⟩) else (⟨#[]⟩, ⟨st.p, st.p, (gt s st.p).2.2⟩)) else (⟨#[]⟩, st)
def fin (s : ByteArray) (st : St) : St := if st.c = 0 ∧ 0 < (s.size : Int) - st.p then ⟨st.p, st.p, 4⟩ else st
end Rr
/-- A reader lies in block g. -/
def RI (w0 w : World) (g : Nat) (s : ByteArray) (st : Rr.St) : Prop := IsS139 w0 w g s st.p st.a st.c ∧ Below w0.heap.size w0 w
section
variable {w0 w w' : World} {g : Nat} {s : ByteArray} {st : Rr.St}
theorem RI.is (h : RI w0 w g s st) : IsS139 w0 w g s st.p st.a st.c := And.left h
theorem RI.bl (h : RI w0 w g s st) : Below w0.heap.size w0 w := And.right h
theorem RI.blk (h : RI w0 w g s st) : w.heap[g]? = some (.cells #[.string s, .int .i64 st.p, .int .i64 st.a, .int .i64 st.c] 139 (0, 0)) := h.is.1
theorem RI.below (h : RI w0 w g s st) (hb : Below w.heap.size w w') : RI w0 w' g s st := ⟨⟨(hb.block g (Array.getElem?_eq_some_iff.1 h.blk).1).trans h.blk, h.is.2⟩, h.bl.trans (hb.mono h.bl.size)⟩
theorem RI.cells (h : RI w0 w g s st) : w.cell? ⟨g, 0, none⟩ = some (.string s) ∧ w.cell? ⟨g, 1, none⟩ = some (.int .i64 st.p) ∧ w.cell? ⟨g, 2, none⟩ = some (.int .i64 st.a) ∧ w.cell? ⟨g, 3, none⟩ = some (.int .i64 st.c) := by
 refine ⟨?_, ?_, ?_, ?_⟩ <;> (rw [Lib.cell_of_heap h.blk]; rfl)
theorem RI.fz (h : RI w0 w g s st) (j : Nat) : w.frozen? ⟨g, j, none⟩ = false := Lib.frozen_of_heap h.blk j
theorem RI.setp (h : RI w0 w g s st) (q : Int) : RI w0 (w.setCell ⟨g, 1, none⟩ (.int .i64 q)) g s ⟨q, st.a, st.c⟩ := ⟨⟨blk_put h.blk 1 _ rfl, h.is.2⟩, h.bl.setCell (p := ⟨g, 1, none⟩) h.is.2 _⟩
theorem RI.fail (h : RI w0 w g s st) (a c : Int) : Calls Tryz.prog 130 #[.pointer (some ⟨g, 0, none⟩), .int .i64 a, .int .i64 c] w fun e w' => e = .returned (.tuple #[]) ∧ RI w0 w' g s ⟨st.p, a, c⟩ ∧ KeepBut w w' g none :=
 (packet_reader_fail.calls g s st.p st.a st.c a c s st.p a c w0 w h.is h.bl rfl).mono fun e w' ⟨h1, h2, h3, h4⟩ => ⟨h1, ⟨h2, h3⟩, h4⟩
theorem RI.fine (h : RI w0 w g s st) : Calls Tryz.prog 90 #[.pointer (some ⟨g, 0, none⟩)] w fun e w' => e = .returned (.bool (st.c == 0)) ∧ RI w0 w' g s st ∧ KeepBut w w' g none :=
 (packet_reader_fine.calls g s st.p st.a st.c _ s st.p st.a st.c w0 w h.is h.bl rfl).mono fun e w' ⟨h1, h2, h3, h4⟩ => ⟨h1, ⟨h2, h3⟩, h4⟩
theorem KB.trans {w1 w2 : World} (h : KeepBut w w1 g none) (k : KeepBut w1 w2 g none) : KeepBut w w2 g none := h.trans k (.inl rfl)
end
theorem spot_int (s : ByteArray) (hs : s.size ≤ 140737488351232) (p : Int) (w : World) : Calls Tryz.prog 134 #[.agg #[.string s, .int .i64 p]] w fun e w' => e = .returned (.tuple #[.int .i64 (Rr.gi s p).1, .int .i64 (Rr.gi s p).2.1, .int .i64 (Rr.gi s p).2.2]) ∧ Below w.heap.size w w' :=
 packet_spot_int.calls s p _ _ _ w (by unfold packet_spot_int.f; rw [Evs.getInt s p hs]; rfl)
theorem spot_uint (s : ByteArray) (hs : s.size ≤ 140737488351232) (p : Int) (w : World) : Calls Tryz.prog 135 #[.agg #[.string s, .int .i64 p]] w fun e w' => e = .returned (.tuple #[.int .i64 (Rr.gu s p).1, .int .i64 (Rr.gu s p).2.1, .int .i64 (Rr.gu s p).2.2]) ∧ Below w.heap.size w w' :=
 packet_spot_uint.calls s p _ _ _ w (by unfold packet_spot_uint.f; rw [Evs.getUint s p hs]; rfl)
set_option maxRecDepth 100000 in
set_option maxHeartbeats 4000000 in
theorem number_134 {w0 w : World} {g : Nat} {s : ByteArray} {st : Rr.St} (h : RI w0 w g s st) (hs : s.size ≤ 140737488351232) : Calls Tryz.prog 133 #[.pointer (some ⟨g, 0, none⟩), .func (.func 134) #[] #[]] w fun e w' => e = .returned (.int .i64 (Rr.number (Rr.gi s) st).1) ∧ RI w0 w' g s (Rr.number (Rr.gi s) st).2 ∧ KeepBut w w' g none := by
 have HF := Aside0.mk h.fine
 obtain ⟨r, hr⟩ : ∃ r, Rr.number (Rr.gi s) st = r := ⟨_, rfl⟩
 rw [hr]
 have HSP := Aside0.mk (spot_int s hs st.p)
 by_cases h0 : st.c = 0
 ·have hb : (st.c == 0) = true := by simpa using h0
  rw [hb] at HF
  obtain ⟨q, hq⟩ : ∃ q, Rr.gi s st.p = q := ⟨_, rfl⟩
  rw [hq] at HSP
  unfold Rr.number at hr
  rw [if_pos h0, hq] at hr
  have HR := Aside0.mk hr
  clear hr h hq hb
  go_enter Tryz.func133, Tryz.ntmps133
  go_wp2_with fail
  refine HF.out.mono ?_
  rintro e w1 ⟨rfl, h1, k1⟩
  obtain ⟨c0, c1, c2, c3⟩ := h1.cells
  have H1 := Aside0.mk h1
  have K1 := Aside0.mk k1
  clear h1 k1 HF
  go_wp2_with fail
  refine (HSP.out _).mono ?_
  rintro e w2 ⟨rfl, b2⟩
  have H2 := Aside0.mk (H1.out.below b2)
  have K2 := Aside0.mk (KB.trans K1.out (KeepBut.of_below b2 g none))
  clear b2 H1 K1 HSP c0 c1 c2 c3
  obtain ⟨c0, c1, c2, c3⟩ := H2.out.cells
  by_cases he : q.2.2 = 0
  ·have hr := HR.out
   rw [if_pos he] at hr
   subst hr
   have f1 := H2.out.fz 1
   have HE := Aside0.mk (H2.out.setp q.2.1)
   have KE := Aside0.mk (K2.out.set_ 1 (.int .i64 q.2.1))
   clear HR H2 K2
   go_wp2_with fail
   go_ret
   exact ⟨rfl, by first | exact HE.out | (have hq := HE.out; rw [h0] at hq; exact hq), KE.out⟩
  ·have hr := HR.out
   rw [if_neg he] at hr
   subst hr
   have hne : (q.2.2 != 0) = true := by simpa using he
   have HFL := Aside0.mk (H2.out.fail st.p q.2.2)
   clear HR H2
   go_wp2_with fail
   refine HFL.out.mono ?_
   rintro e w3 ⟨rfl, h3, k3⟩
   have HE := Aside0.mk h3
   have KE := Aside0.mk (KB.trans K2.out k3)
   clear h3 k3 K2 HFL c0 c1 c2 c3
   go_wp2_with fail
   go_ret
   exact ⟨rfl, by first | exact HE.out | (have hq := HE.out; rw [h0] at hq; exact hq), KE.out⟩
 ·have hb : (st.c == 0) = false := by simpa using h0
  rw [hb] at HF
  unfold Rr.number at hr
  rw [if_neg h0] at hr
  subst hr
  clear h hb h0 HSP
  go_enter Tryz.func133, Tryz.ntmps133
  go_wp2_with fail
  refine HF.out.mono ?_
  rintro e w1 ⟨rfl, h1, k1⟩
  have HE := Aside0.mk h1
  have KE := Aside0.mk k1
  clear h1 k1 HF
  go_wp2_with fail
  go_ret
  exact ⟨rfl, by first | exact HE.out | (have hq := HE.out; rw [h0] at hq; exact hq), KE.out⟩
set_option maxRecDepth 100000 in
set_option maxHeartbeats 4000000 in
theorem number_135 {w0 w : World} {g : Nat} {s : ByteArray} {st : Rr.St} (h : RI w0 w g s st) (hs : s.size ≤ 140737488351232) : Calls Tryz.prog 133 #[.pointer (some ⟨g, 0, none⟩), .func (.func 135) #[] #[]] w fun e w' => e = .returned (.int .i64 (Rr.number (Rr.gu s) st).1) ∧ RI w0 w' g s (Rr.number (Rr.gu s) st).2 ∧ KeepBut w w' g none := by
 have HF := Aside0.mk h.fine
 obtain ⟨r, hr⟩ : ∃ r, Rr.number (Rr.gu s) st = r := ⟨_, rfl⟩
 rw [hr]
 have HSP := Aside0.mk (spot_uint s hs st.p)
 by_cases h0 : st.c = 0
 ·have hb : (st.c == 0) = true := by simpa using h0
  rw [hb] at HF
  obtain ⟨q, hq⟩ : ∃ q, Rr.gu s st.p = q := ⟨_, rfl⟩
  rw [hq] at HSP
  unfold Rr.number at hr
  rw [if_pos h0, hq] at hr
  have HR := Aside0.mk hr
  clear hr h hq hb
  go_enter Tryz.func133, Tryz.ntmps133
  go_wp2_with fail
  refine HF.out.mono ?_
  rintro e w1 ⟨rfl, h1, k1⟩
  obtain ⟨c0, c1, c2, c3⟩ := h1.cells
  have H1 := Aside0.mk h1
  have K1 := Aside0.mk k1
  clear h1 k1 HF
  go_wp2_with fail
  refine (HSP.out _).mono ?_
  rintro e w2 ⟨rfl, b2⟩
  have H2 := Aside0.mk (H1.out.below b2)
  have K2 := Aside0.mk (KB.trans K1.out (KeepBut.of_below b2 g none))
  clear b2 H1 K1 HSP c0 c1 c2 c3
  obtain ⟨c0, c1, c2, c3⟩ := H2.out.cells
  by_cases he : q.2.2 = 0
  ·have hr := HR.out
   rw [if_pos he] at hr
   subst hr
   have f1 := H2.out.fz 1
   have HE := Aside0.mk (H2.out.setp q.2.1)
   have KE := Aside0.mk (K2.out.set_ 1 (.int .i64 q.2.1))
   clear HR H2 K2
   go_wp2_with fail
   go_ret
   exact ⟨rfl, by first | exact HE.out | (have hq := HE.out; rw [h0] at hq; exact hq), KE.out⟩
  ·have hr := HR.out
   rw [if_neg he] at hr
   subst hr
   have hne : (q.2.2 != 0) = true := by simpa using he
   have HFL := Aside0.mk (H2.out.fail st.p q.2.2)
   clear HR H2
   go_wp2_with fail
   refine HFL.out.mono ?_
   rintro e w3 ⟨rfl, h3, k3⟩
   have HE := Aside0.mk h3
   have KE := Aside0.mk (KB.trans K2.out k3)
   clear h3 k3 K2 HFL c0 c1 c2 c3
   go_wp2_with fail
   go_ret
   exact ⟨rfl, by first | exact HE.out | (have hq := HE.out; rw [h0] at hq; exact hq), KE.out⟩
 ·have hb : (st.c == 0) = false := by simpa using h0
  rw [hb] at HF
  unfold Rr.number at hr
  rw [if_neg h0] at hr
  subst hr
  clear h hb h0 HSP
  go_enter Tryz.func133, Tryz.ntmps133
  go_wp2_with fail
  refine HF.out.mono ?_
  rintro e w1 ⟨rfl, h1, k1⟩
  have HE := Aside0.mk h1
  have KE := Aside0.mk k1
  clear h1 k1 HF
  go_wp2_with fail
  go_ret
  exact ⟨rfl, by first | exact HE.out | (have hq := HE.out; rw [h0] at hq; exact hq), KE.out⟩
set_option maxRecDepth 100000 in
set_option maxHeartbeats 2000000 in
theorem left_walk (s : ByteArray) (p : Int) (w : World) (hp : 0 ≤ p) (hp2 : p ≤ 4611686018427387904) (hs : s.size ≤ 140737488351232) : Calls Tryz.prog 136 #[.agg #[.string s, .int .i64 p]] w fun e w' => e = .returned (.int .i64 ((s.size : Int) - p)) ∧ Below w.heap.size w w' := by
 have hw : wrap64 ((s.size : Int) - p) = (s.size : Int) - p := IntWalk.wrap64_in _ ⟨by omega, by omega⟩
 have HB := Aside0.mk (below_one w (.cells #[.string s, .int .i64 p] 137))
 go_enter Tryz.func136, Tryz.ntmps136
 go_wp2_with fail
 go_ret
 exact ⟨by first | rfl | (rw [hw]), HB.out⟩
end Go.Proofs.YtofklpphalalhaaGreatDoor
end
