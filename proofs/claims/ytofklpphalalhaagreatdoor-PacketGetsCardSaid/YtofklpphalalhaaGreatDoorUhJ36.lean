/- Texts of this claim, joined: GivenS8, EvL. Each as it was, cut to what the claim uses. Conditions: each theorem's own. -/
import Derived.Test.YtofklpphalalhaaGreatDoorUhJ1
import Derived.Test.YtofklpphalalhaaGreatDoorUhGivenN
import Derived.Test.YtofklpphalalhaaGreatDoorUhJ21
import Derived.Test.YtofklpphalalhaaGreatDoorUhJ33
section
namespace Go.Proofs.YtofklpphalalhaaGreatDoor
set_option linter.unusedVariables false
set_option linter.unusedSimpArgs false
open Go.RowKit Go.Proofs.YtofklpphalalhaaGreatDoor.PAll Go.Proofs.YtofklpphalalhaaGreatDoorW.PrintWords Go.Proofs.YtofklpphalalhaaGreatDoorW.PrintLast Go.Proofs.YtofklpphalalhaaGreatDoorW.PrintMore
theorem neq128 (d : S128) (w : World) : Sem.run Tryz.prog (binOp .neq 128 (.agg #[.int .i64 d.f0, .int .i64 d.f1, .int .i64 d.f2, .int .i64 d.f3, .int .i64 d.f4, .int .i64 d.f5, .int .i64 d.f6]) (.agg #[.int .i64 d.f0, .int .i64 d.f1, .int .i64 d.f2, .int .i64 d.f3, .int .i64 d.f4, .int .i64 d.f5, .int .i64 d.f6])) w = .ok (.bool false) w := by
 have u3 := Tryz.underlying3
 have a3 := Tryz.isAgg3
 have z3 := Tryz.sizeOf3
 have hS : Tryz.prog.underlying 128 = some (.struct (Tryz.prog.fieldsOf 128)) := by kernel_rfl
 have hp : Tryz.prog.stoodInHeld 128 = false := by kernel_rfl
 rw [run_neq_struct, show (10000 : Nat) = 9999 + 1 from rfl, run_equalIn_agg w 9999 128 _ _ hS hp]
 simp only [Program.fieldsOf, Tryz.underlying128]
 go_simp
theorem neq38s (d : S38) (w : World) : Sem.run Tryz.prog (binOp .neq 38 (.agg #[.int .i64 d.f0, .int .i64 d.f1]) (.agg #[.int .i64 d.f0, .int .i64 d.f1])) w = .ok (.bool false) w := by have := neq38 (d.f0, d.f1) (d.f0, d.f1) w; simpa using this
theorem y_cells' {W : World} {g : Nat} {x : Cn.In} {v6 v7 : Value} (h : W.heap[g]? = some (.cells #[.string x.nm, .int .i64 x.kind, .int .i64 x.metric, .int .i64 x.scale, .int .i64 x.cap, .int .i64 x.fleet, v6, v7] 51)) : W.cell? ⟨g, 0, none⟩ = some (.string x.nm) ∧ W.cell? ⟨g, 1, none⟩ = some (.int .i64 x.kind) ∧ W.cell? ⟨g, 2, none⟩ = some (.int .i64 x.metric) ∧ W.cell? ⟨g, 3, none⟩ = some (.int .i64 x.scale) ∧ W.cell? ⟨g, 4, none⟩ = some (.int .i64 x.cap) ∧ W.cell? ⟨g, 5, none⟩ = some (.int .i64 x.fleet) ∧ W.cell? ⟨g, 6, none⟩ = some v6 ∧ W.cell? ⟨g, 7, none⟩ = some v7 := by
 refine ⟨?_, ?_, ?_, ?_, ?_, ?_, ?_, ?_⟩ <;> (rw [Lib.cell_of_heap h]; rfl)
set_option maxRecDepth 100000 in
set_option maxHeartbeats 8000000 in
theorem ints103_walk (A B : Option Addr) (c c' : Nat) (l : List Int) (w : World) (hA : Kd.C (Kd.int .i64) w A l.length l) (hB : Kd.C (Kd.int .i64) w B l.length l) : Calls Tryz.prog 103 #[.slice A l.length c, .slice B l.length c'] w fun e w' => e = .returned (.bool true) ∧ Below w.heap.size w w' := by
 have HA := Aside0.mk hA
 have HB := Aside0.mk hB
 have hm := (C_len hA).2
 clear hA hB
 go_enter Tryz.func103, Tryz.ntmps103
 go_wp2_with fail
 go_loopw [5] (fun v wr => ∃ k : Nat, k ≤ l.length ∧ v = .int .i64 k ∧ Below w.heap.size w wr) (fun v _ => l.length - (intOf v).toNat)
 case atStart => exact ⟨0, Nat.zero_le _, rfl, Below.refl _ _⟩
 case round =>
  obtain ⟨k, hk, rfl, hb⟩ := hrel
  have HK := Aside0.mk hb
  clear hb
  by_cases hlt : k < l.length
  ·have hdl : (k : Int) < (l.length : Int) := by omega
   obtain ⟨ad, e, x0⟩ := at_int (Kd.C_below HA.out HK.out) k hlt
   subst e
   obtain ⟨bd, e, z0⟩ := at_int (Kd.C_below HB.out HK.out) k hlt
   subst e
   obtain ⟨d, hd⟩ : ∃ d, l.getD k 0 = d := ⟨_, rfl⟩
   rw [hd] at x0 z0
   clear hd
   have HK2 : Aside0 (Below w.heap.size w wr.drew) := ⟨HK.out.drew⟩
   go_wp2_with fail
   refine start_ (n := 9) (S := fun w' => w'.cell? (ad.add k) = some (.int .i64 d) ∧ w'.cell? (bd.add k) = some (.int .i64 d)) (ds := []) #[false, false, false, false, false, false, false, false, false] (by kernel_rfl) rfl rfl ⟨x0, z0⟩ (fun hHeld => ?_)
   refine pz (i := 0) (N := some 17) (bz 9 1) ?_
   refine pz (i := 1) (N := some 18) (bz 9 3) ?_
   refine pz (i := 2) (N := some 19) (bz 9 7) ?_
   refine pz (i := 4) (N := some 21) (bz 9 23) ?_
   refine pz (i := 5) (N := some 22) (bz 9 55) ?_
   refine pz (i := 6) (N := some 23) (bz 9 119) ?_
   refine tz (i := 3) (N := some 20) (bz 9 127) hHeld ?_
   refine tz (i := 7) (N := some 24) (bz 9 255) hHeld ?_
   refine pz (i := 8) (N := some 25) (bz 9 511) ?_
   refine done_ (by kernel_rfl) ?_
   go_wp2_with fail
   go_roundw
   case rel => exact ⟨k + 1, by omega, by go_num, HK2.out⟩
   case measure => simp [intOf]; omega
  ·have hdl : ¬ ((k : Int) < (l.length : Int)) := by omega
   go_wp2_with fail
   go_ret
   exact ⟨rfl, HK.out⟩
set_option maxRecDepth 100000 in
set_option maxHeartbeats 8000000 in
theorem same43_walk (A B : Option Addr) (c c' : Nat) (l : List S38) (w : World) (hA : Kd.C (k38) w A l.length l) (hB : Kd.C (k38) w B l.length l) : Calls Tryz.prog 43 #[.slice A l.length c, .slice B l.length c'] w fun e w' => e = .returned (.bool true) ∧ Below w.heap.size w w' := by
 have HA := Aside0.mk hA
 have HB := Aside0.mk hB
 have hm := (C_len hA).2
 clear hA hB
 go_enter Tryz.func43, Tryz.ntmps43
 go_wp2_with fail
 go_loopw [5] (fun v wr => ∃ k : Nat, k ≤ l.length ∧ v = .int .i64 k ∧ Below w.heap.size w wr) (fun v _ => l.length - (intOf v).toNat)
 case atStart => exact ⟨0, Nat.zero_le _, rfl, Below.refl _ _⟩
 case round =>
  obtain ⟨k, hk, rfl, hb⟩ := hrel
  have HK := Aside0.mk hb
  clear hb
  by_cases hlt : k < l.length
  ·have hdl : (k : Int) < (l.length : Int) := by omega
   obtain ⟨ad, e, x0, x1⟩ := at_T38 (Kd.C_below HA.out HK.out) (k : Int) (by omega) (by omega)
   subst e
   obtain ⟨bd, e, z0, z1⟩ := at_T38 (Kd.C_below HB.out HK.out) (k : Int) (by omega) (by omega)
   subst e
   simp only [Int.toNat_natCast] at x0 x1 z0 z1
   obtain ⟨d, hd⟩ : ∃ d, rd_T38 l k = d := ⟨_, rfl⟩
   rw [hd] at x0 x1 z0 z1
   have hne := neq38s d
   clear hd
   have HK2 : Aside0 (Below w.heap.size w wr.drew) := ⟨HK.out.drew⟩
   go_wp2_with fail
   refine start_ (n := 9) (S := fun w' => w'.cell? (ad.add (k * 2)) = some (.int .i64 d.f0) ∧ w'.cell? ⟨(ad.add (k * 2)).block, (ad.add (k * 2)).off + 1, none⟩ = some (.int .i64 d.f1) ∧ w'.cell? (bd.add (k * 2)) = some (.int .i64 d.f0) ∧ w'.cell? ⟨(bd.add (k * 2)).block, (bd.add (k * 2)).off + 1, none⟩ = some (.int .i64 d.f1)) (ds := []) #[false, false, false, false, false, false, false, false, false] (by kernel_rfl) rfl rfl ⟨x0, x1, z0, z1⟩ (fun hHeld => ?_)
   refine pz (i := 0) (N := some 17) (bz 9 1) ?_
   refine pz (i := 1) (N := some 18) (bz 9 3) ?_
   refine pz (i := 2) (N := some 19) (bz 9 7) ?_
   refine pz (i := 4) (N := some 21) (bz 9 23) ?_
   refine pz (i := 5) (N := some 22) (bz 9 55) ?_
   refine pz (i := 6) (N := some 23) (bz 9 119) ?_
   refine tz (i := 3) (N := some 20) (bz 9 127) hHeld ?_
   refine tz (i := 7) (N := some 24) (bz 9 255) hHeld ?_
   refine pz (i := 8) (N := some 25) (bz 9 511) ?_
   refine done_ (by kernel_rfl) ?_
   go_wp2_with fail
   go_roundw
   case rel => exact ⟨k + 1, by omega, by go_num, HK2.out⟩
   case measure => simp [intOf]; omega
  ·have hdl : ¬ ((k : Int) < (l.length : Int)) := by omega
   go_wp2_with fail
   go_ret
   exact ⟨rfl, HK.out⟩
theorem cbS {w w1 : World} {a : Addr} {v : Value} (hb : Below w.heap.size w w1) (h : w.cell? a = some v) : w1.cell? a = some v := by
 have hl : a.block < w.heap.size := by
  rcases Nat.lt_or_ge a.block w.heap.size with h' | h'
  ·exact h'
  ·unfold World.cell? at h; rw [Array.getElem?_eq_none h'] at h; cases h
 rw [hb.cell (p := a) hl]; exact h
set_option maxRecDepth 100000 in
set_option maxHeartbeats 8000000 in
theorem same44_walk (A B : Option Addr) (c c' : Nat) (rs : List (List Int)) (w : World) (hA : Kd.C kRow w A rs.length rs) (hB : Kd.C kRow w B rs.length rs) : Calls Tryz.prog 44 #[.agg #[.slice A rs.length c], .agg #[.slice B rs.length c']] w fun e w' => e = .returned (.bool true) ∧ Below w.heap.size w w' := by
 have hb := below_two w (.cells #[.slice A rs.length c] 54) (.cells #[.slice B rs.length c'] 54)
 have htb := two_blocks w (.cells #[.slice A rs.length c] 54) (.cells #[.slice B rs.length c'] 54)
 obtain ⟨V, hV⟩ : ∃ V, (w.alloc (.cells #[.slice A rs.length c] 54)).alloc (.cells #[.slice B rs.length c'] 54) = V := ⟨_, rfl⟩
 rw [hV] at hb htb
 have HB0 := Aside0.mk hb
 have HA := Aside0.mk (Kd.C_below hA hb)
 have HB := Aside0.mk (Kd.C_below hB hb)
 have HTB := Aside0.mk htb
 have hm := (C_len hA).2
 have hsV : V.heap.size = w.heap.size + 2 := by rw [← hV]; simp
 have HSV := Aside0.mk hsV
 have x0 : V.cell? ⟨w.heap.size, 0, none⟩ = some (.slice A rs.length c) := by rw [Lib.cell_of_heap htb.1]; rfl
 have y0 : V.cell? ⟨w.heap.size + 1, 0, none⟩ = some (.slice B rs.length c') := by rw [Lib.cell_of_heap htb.2]; rfl
 have hVw := hV
 clear hA hB hb htb hsV
 go_enter Tryz.func44, Tryz.ntmps44
 go_wp2_with fail
 clear x0 y0 hV
 go_loopw [5] (fun v wr => ∃ k : Nat, k ≤ rs.length ∧ v = .int .i64 k ∧ Below V.heap.size V wr) (fun v _ => rs.length - (intOf v).toNat)
 case atStart => exact ⟨0, Nat.zero_le _, rfl, Below.refl _ _⟩
 case round =>
  obtain ⟨k, hk, rfl, hb⟩ := hrel
  have HK := Aside0.mk hb
  have p0 : wr.cell? ⟨w.heap.size, 0, none⟩ = some (.slice A rs.length c) := by rw [Lib.cell_of_heap ((hb.block _ (by rw [HSV.out]; omega)).trans HTB.out.1)]; rfl
  have q0 : wr.cell? ⟨w.heap.size + 1, 0, none⟩ = some (.slice B rs.length c') := by rw [Lib.cell_of_heap ((hb.block _ (by rw [HSV.out]; omega)).trans HTB.out.2)]; rfl
  clear hb
  by_cases hlt : k < rs.length
  ·have hdl : (k : Int) < (rs.length : Int) := by omega
   obtain ⟨ad, A0, c0, e, x0, _, hC0⟩ := at_L4 (Kd.C_below HA.out HK.out) (k : Int) (by omega) (by omega)
   subst e
   obtain ⟨bd, B0, k0, e, z0, _, hD0⟩ := at_L4 (Kd.C_below HB.out HK.out) (k : Int) (by omega) (by omega)
   subst e
   rw [Int.toNat_natCast] at x0 z0
   obtain ⟨r, hr⟩ : ∃ r, rd_L4 rs k = r := ⟨_, rfl⟩
   rw [hr] at x0 z0 hC0 hD0
   have HE : Aside0 (∀ U, Below wr.heap.size wr U → Calls Tryz.prog 103 #[.slice A0 r.length c0, .slice B0 r.length k0] U fun e w' => e = .returned (.bool true) ∧ Below U.heap.size U w') := ⟨fun U hU => ints103_walk A0 B0 c0 k0 r U (Kd.C_below hC0 hU) (Kd.C_below hD0 hU)⟩
   clear hr hC0 hD0
   go_wp2_with fail
   refine start_ (n := 12) (S := fun w' => w'.cell? ⟨w.heap.size, 0, none⟩ = some (.slice (some ad) rs.length c) ∧ w'.cell? ⟨w.heap.size + 1, 0, none⟩ = some (.slice (some bd) rs.length c') ∧ w'.cell? (ad.add k) = some (.slice A0 r.length c0) ∧ w'.cell? (bd.add k) = some (.slice B0 r.length k0)) (ds := []) #[false, false, false, false, false, false, false, false, false, false, false, false] (by kernel_rfl) rfl rfl ⟨p0, q0, x0, z0⟩ (fun hHeld => ?_)
   refine pz (i := 0) (N := some 20) (bz 12 1) ?_
   refine pz (i := 2) (N := some 22) (bz 12 5) ?_
   refine pz (i := 5) (N := some 25) (bz 12 37) ?_
   refine pz (i := 7) (N := some 27) (bz 12 165) ?_
   refine tz (i := 1) (N := some 21) (bz 12 167) hHeld ?_
   refine pz (i := 3) (N := some 23) (bz 12 175) ?_
   refine tz (i := 4) (N := some 24) (bz 12 191) hHeld ?_
   refine tz (i := 6) (N := some 26) (bz 12 255) hHeld ?_
   refine pz (i := 8) (N := some 28) (bz 12 511) ?_
   refine tz (i := 9) (N := some 29) (bz 12 1023) hHeld ?_
   refine one_ (i := 10) (N := some 30) (bz 12 2047) rfl rfl (by kernel_rfl) (by decide) (fun K hK => ?_)
   have hH := hHeld
   refine goes_ Tryz.func103 (by kernel_rfl) rfl #[.slice A0 r.length c0, .slice B0 r.length k0] (by rfl) rfl rfl (by simp only [List.map_toArray, List.map_cons, List.map_nil]; rfl) ?_
   with_reducible refine ((HE.out _ (Below.refl _ _).drew)).mono ?_
   rintro e U1 ⟨rfl, bk⟩
   refine ⟨_, rfl, ?_⟩
   have HK2 := Aside0.mk (HK.out.trans (((Below.refl wr.heap.size wr).drew.trans bk).mono HK.out.size))
   refine hK.out _ _ ⟨(cbS bk hH.1), (cbS bk hH.2.1), (cbS bk hH.2.2.1), (cbS bk hH.2.2.2)⟩ (fun hHeld => ?_)
   clear hK K
   refine nz (N := some 30) ?_
   refine pz (i := 11) (N := some 31) (bz 12 4095) ?_
   refine done_ (by kernel_rfl) ?_
   go_wp2_with fail
   go_roundw
   case rel => exact ⟨k + 1, by omega, by go_num, HK2.out⟩
   case measure => simp [intOf]; omega
  ·have hdl : ¬ ((k : Int) < (rs.length : Int)) := by omega
   go_wp2_with fail
   go_ret
   exact ⟨rfl, HB0.out.trans (HK.out.mono HB0.out.size)⟩
set_option maxRecDepth 100000 in
set_option maxHeartbeats 16000000 in
theorem same42_walk (x : Cn.In) (l : List S128) (A6 A7 B6 B7 : Option Addr) (c6 c7 d6 d7 : Nat) (w : World) (hA6 : Kd.C k128 w A6 l.length l) (hA7 : Kd.C (Kd.int .i64) w A7 x.mx.length x.mx) (hB6 : Kd.C k128 w B6 l.length l) (hB7 : Kd.C (Kd.int .i64) w B7 x.mx.length x.mx) :
  Calls Tryz.prog 42 #[.agg #[.string x.nm, .int .i64 x.kind, .int .i64 x.metric, .int .i64 x.scale, .int .i64 x.cap, .int .i64 x.fleet, .slice A6 l.length c6, .slice A7 x.mx.length c7], .agg #[.string x.nm, .int .i64 x.kind, .int .i64 x.metric, .int .i64 x.scale, .int .i64 x.cap, .int .i64 x.fleet, .slice B6 l.length d6, .slice B7 x.mx.length d7]] w fun e w' => e = .returned (.bool true) ∧ Below w.heap.size w w' := by
 have hb := below_two w (.cells #[.string x.nm, .int .i64 x.kind, .int .i64 x.metric, .int .i64 x.scale, .int .i64 x.cap, .int .i64 x.fleet, .slice A6 l.length c6, .slice A7 x.mx.length c7] 51) (.cells #[.string x.nm, .int .i64 x.kind, .int .i64 x.metric, .int .i64 x.scale, .int .i64 x.cap, .int .i64 x.fleet, .slice B6 l.length d6, .slice B7 x.mx.length d7] 51)
 have htb := two_blocks w (.cells #[.string x.nm, .int .i64 x.kind, .int .i64 x.metric, .int .i64 x.scale, .int .i64 x.cap, .int .i64 x.fleet, .slice A6 l.length c6, .slice A7 x.mx.length c7] 51) (.cells #[.string x.nm, .int .i64 x.kind, .int .i64 x.metric, .int .i64 x.scale, .int .i64 x.cap, .int .i64 x.fleet, .slice B6 l.length d6, .slice B7 x.mx.length d7] 51)
 obtain ⟨V, hV⟩ : ∃ V, (w.alloc (.cells #[.string x.nm, .int .i64 x.kind, .int .i64 x.metric, .int .i64 x.scale, .int .i64 x.cap, .int .i64 x.fleet, .slice A6 l.length c6, .slice A7 x.mx.length c7] 51)).alloc (.cells #[.string x.nm, .int .i64 x.kind, .int .i64 x.metric, .int .i64 x.scale, .int .i64 x.cap, .int .i64 x.fleet, .slice B6 l.length d6, .slice B7 x.mx.length d7] 51) = V := ⟨_, rfl⟩
 rw [hV] at hb htb
 have HB0 := Aside0.mk hb
 have HA6 := Aside0.mk (Kd.C_below hA6 hb)
 have HA7 := Aside0.mk (Kd.C_below hA7 hb)
 have HB6 := Aside0.mk (Kd.C_below hB6 hb)
 have HB7 := Aside0.mk (Kd.C_below hB7 hb)
 have HTB := Aside0.mk htb
 have hm6 := (C_len hA6).2
 have hm7 := (C_len hA7).2
 have hsV : V.heap.size = w.heap.size + 2 := by rw [← hV]; simp
 have HSV := Aside0.mk hsV
 obtain ⟨x0, x1, x2, x3, x4, x5, x6, x7⟩ := y_cells' htb.1
 obtain ⟨y0, y1, y2, y3, y4, y5, y6, y7⟩ := y_cells' htb.2
 clear hA6 hA7 hB6 hB7 hb htb hsV
 go_enter Tryz.func42, Tryz.ntmps42
 go_wp2_with fail
 clear x0 x1 x2 x3 x4 x5 x6 x7 y0 y1 y2 y3 y4 y5 y6 y7 hV
 go_loopw [5] (fun v wr => ∃ k : Nat, k ≤ l.length ∧ v = .int .i64 k ∧ Below V.heap.size V wr) (fun v _ => l.length - (intOf v).toNat)
 case atStart => exact ⟨0, Nat.zero_le _, rfl, Below.refl _ _⟩
 case round =>
  obtain ⟨k, hk, rfl, hb⟩ := hrel
  have HK := Aside0.mk hb
  have p6 : wr.cell? ⟨w.heap.size, 6, none⟩ = some (.slice A6 l.length c6) := by rw [Lib.cell_of_heap ((hb.block _ (by rw [HSV.out]; omega)).trans HTB.out.1)]; rfl
  have q6 : wr.cell? ⟨w.heap.size + 1, 6, none⟩ = some (.slice B6 l.length d6) := by rw [Lib.cell_of_heap ((hb.block _ (by rw [HSV.out]; omega)).trans HTB.out.2)]; rfl
  clear hb
  by_cases hlt : k < l.length
  ·have hdl : (k : Int) < (l.length : Int) := by omega
   obtain ⟨ad, e, x0, x1, x2, x3, x4, x5, x6⟩ := at_T128 (Kd.C_below HA6.out HK.out) (k : Int) (by omega) (by omega)
   subst e
   obtain ⟨bd, e, z0, z1, z2, z3, z4, z5, z6⟩ := at_T128 (Kd.C_below HB6.out HK.out) (k : Int) (by omega) (by omega)
   subst e
   simp only [Int.toNat_natCast] at x0 x1 x2 x3 x4 x5 x6 z0 z1 z2 z3 z4 z5 z6
   obtain ⟨d, hd⟩ : ∃ d, rd_T128 l k = d := ⟨_, rfl⟩
   rw [hd] at x0 x1 x2 x3 x4 x5 x6 z0 z1 z2 z3 z4 z5 z6
   have hne := neq128 d
   clear hd
   have HK2 : Aside0 (Below V.heap.size V wr.drew) := ⟨HK.out.drew⟩
   go_wp2_with fail
   refine start_ (n := 11) (S := fun w' => w'.cell? ⟨w.heap.size, 6, none⟩ = some (.slice (some ad) l.length c6) ∧ w'.cell? ⟨w.heap.size + 1, 6, none⟩ = some (.slice (some bd) l.length d6) ∧ w'.cell? (ad.add (k * 7)) = some (.int .i64 d.f0) ∧ w'.cell? ⟨(ad.add (k * 7)).block, (ad.add (k * 7)).off + 1, none⟩ = some (.int .i64 d.f1) ∧ w'.cell? ⟨(ad.add (k * 7)).block, (ad.add (k * 7)).off + 2, none⟩ = some (.int .i64 d.f2) ∧ w'.cell? ⟨(ad.add (k * 7)).block, (ad.add (k * 7)).off + 3, none⟩ = some (.int .i64 d.f3) ∧ w'.cell? ⟨(ad.add (k * 7)).block, (ad.add (k * 7)).off + 4, none⟩ = some (.int .i64 d.f4) ∧ w'.cell? ⟨(ad.add (k * 7)).block, (ad.add (k * 7)).off + 5, none⟩ = some (.int .i64 d.f5) ∧ w'.cell? ⟨(ad.add (k * 7)).block, (ad.add (k * 7)).off + 6, none⟩ = some (.int .i64 d.f6) ∧ w'.cell? (bd.add (k * 7)) = some (.int .i64 d.f0) ∧ w'.cell? ⟨(bd.add (k * 7)).block, (bd.add (k * 7)).off + 1, none⟩ = some (.int .i64 d.f1) ∧ w'.cell? ⟨(bd.add (k * 7)).block, (bd.add (k * 7)).off + 2, none⟩ = some (.int .i64 d.f2) ∧ w'.cell? ⟨(bd.add (k * 7)).block, (bd.add (k * 7)).off + 3, none⟩ = some (.int .i64 d.f3) ∧ w'.cell? ⟨(bd.add (k * 7)).block, (bd.add (k * 7)).off + 4, none⟩ = some (.int .i64 d.f4) ∧ w'.cell? ⟨(bd.add (k * 7)).block, (bd.add (k * 7)).off + 5, none⟩ = some (.int .i64 d.f5) ∧ w'.cell? ⟨(bd.add (k * 7)).block, (bd.add (k * 7)).off + 6, none⟩ = some (.int .i64 d.f6)) (ds := []) #[false, false, false, false, false, false, false, false, false, false, false] (by kernel_rfl) rfl rfl ⟨p6, q6, x0, x1, x2, x3, x4, x5, x6, z0, z1, z2, z3, z4, z5, z6⟩ (fun hHeld => ?_)
   refine pz (i := 0) (N := some 72) (bz 11 1) ?_
   refine pz (i := 2) (N := some 74) (bz 11 5) ?_
   refine pz (i := 5) (N := some 77) (bz 11 37) ?_
   refine pz (i := 7) (N := some 79) (bz 11 165) ?_
   refine tz (i := 1) (N := some 73) (bz 11 167) hHeld ?_
   refine pz (i := 3) (N := some 75) (bz 11 175) ?_
   refine tz (i := 4) (N := some 76) (bz 11 191) hHeld ?_
   refine tz (i := 6) (N := some 78) (bz 11 255) hHeld ?_
   refine pz (i := 8) (N := some 80) (bz 11 511) ?_
   refine tz (i := 9) (N := some 81) (bz 11 1023) hHeld ?_
   refine pz (i := 10) (N := some 82) (bz 11 2047) ?_
   refine done_ (by kernel_rfl) ?_
   go_wp2_with fail
   go_roundw
   case rel => exact ⟨k + 1, by omega, by go_num, HK2.out⟩
   case measure => simp [intOf]; omega
  ·have hdl : ¬ ((k : Int) < (l.length : Int)) := by omega
   go_wp2_with fail
   clear p6 q6
   have HV1 := Aside0.mk HK.out
   go_loopw [6] (fun v wq => ∃ k : Nat, k ≤ x.mx.length ∧ v = .int .i64 k ∧ Below V.heap.size V wq) (fun v _ => x.mx.length - (intOf v).toNat)
   case atStart => exact ⟨0, Nat.zero_le _, rfl, HV1.out⟩
   case round =>
    clear hdl hlt hk
    obtain ⟨k, hk, rfl, hb⟩ := hrel
    have HK3 := Aside0.mk hb
    have p7 : World.cell? _ ⟨w.heap.size, 7, none⟩ = some (.slice A7 x.mx.length c7) := (Lib.cell_of_heap ((hb.block _ (by rw [HSV.out]; omega)).trans HTB.out.1) 7).trans rfl
    have q7 : World.cell? _ ⟨w.heap.size + 1, 7, none⟩ = some (.slice B7 x.mx.length d7) := (Lib.cell_of_heap ((hb.block _ (by rw [HSV.out]; omega)).trans HTB.out.2) 7).trans rfl
    clear hb
    by_cases hlt : k < x.mx.length
    ·have hdl : (k : Int) < (x.mx.length : Int) := by omega
     obtain ⟨ad, e, x0⟩ := at_int (Kd.C_below HA7.out HK3.out) k hlt
     subst e
     obtain ⟨bd, e, z0⟩ := at_int (Kd.C_below HB7.out HK3.out) k hlt
     subst e
     obtain ⟨d, hd⟩ : ∃ d, x.mx.getD k 0 = d := ⟨_, rfl⟩
     rw [hd] at x0 z0
     clear hd
     have HK4 := Aside0.mk HK3.out.drew
     go_wp2_with fail
     refine start_ (n := 11) (S := fun w' => w'.cell? ⟨w.heap.size, 7, none⟩ = some (.slice (some ad) x.mx.length c7) ∧ w'.cell? ⟨w.heap.size + 1, 7, none⟩ = some (.slice (some bd) x.mx.length d7) ∧ w'.cell? (ad.add k) = some (.int .i64 d) ∧ w'.cell? (bd.add k) = some (.int .i64 d)) (ds := []) #[false, false, false, false, false, false, false, false, false, false, false] (by kernel_rfl) rfl rfl ⟨p7, q7, x0, z0⟩ (fun hHeld => ?_)
     refine pz (i := 0) (N := some 90) (bz 11 1) ?_
     refine pz (i := 2) (N := some 92) (bz 11 5) ?_
     refine pz (i := 5) (N := some 95) (bz 11 37) ?_
     refine pz (i := 7) (N := some 97) (bz 11 165) ?_
     refine tz (i := 1) (N := some 91) (bz 11 167) hHeld ?_
     refine pz (i := 3) (N := some 93) (bz 11 175) ?_
     refine tz (i := 4) (N := some 94) (bz 11 191) hHeld ?_
     refine tz (i := 6) (N := some 96) (bz 11 255) hHeld ?_
     refine pz (i := 8) (N := some 98) (bz 11 511) ?_
     refine tz (i := 9) (N := some 99) (bz 11 1023) hHeld ?_
     refine pz (i := 10) (N := some 100) (bz 11 2047) ?_
     refine done_ (by kernel_rfl) ?_
     go_wp2_with fail
     go_roundw
     case rel => exact ⟨k + 1, by omega, by go_num, HK4.out⟩
     case measure => simp [intOf]; omega
    ·have hdl : ¬ ((k : Int) < (x.mx.length : Int)) := by omega
     go_wp2_with fail
     go_ret
     exact ⟨rfl, HB0.out.trans (HK3.out.mono HB0.out.size)⟩
end Go.Proofs.YtofklpphalalhaaGreatDoor
end
section
set_option linter.unusedVariables false
set_option linter.unusedSimpArgs false
namespace Go.Proofs.YtofklpphalalhaaGreatDoor
open Go.RowKit Go.Proofs.YtofklpphalalhaaGreatDoor.PAll
namespace Rr
/-! How much is read. -/
theorem normN_len (n : Nat) : ∀ x : Cn.In, (Cn.normN n x).nodes.length = x.nodes.length ∧ (Cn.normN n x).mx = x.mx ∧ (Cn.normN n x).nm = x.nm := by
  induction n with
  | zero => intro x; exact ⟨rfl, rfl, rfl⟩
  | succ n ih =>
    intro x
    rw [Cn.normN]
    split
    · have := ih (Cn.down x)
      exact ⟨this.1.trans (List.length_map _), this.2⟩
    · exact ⟨rfl, rfl, rfl⟩
theorem told_len (x : Cn.In) : (Cn.told x).1.nodes.length ≤ 400 ∧ ((Cn.told x).1.mx.length ≤ x.mx.length) := by
 unfold Cn.told
 split
 ·rename_i h
  have h2 := normN_len 7 x
  unfold Cn.check at h
  split at h
  ·rename_i hb
   have := of_decide_eq_true (show decide ((1 : Int) ≤ x.nodes.length ∧ (x.nodes.length : Int) ≤ 400) = true from hb)
   exact ⟨by show (Cn.normN 7 x).nodes.length ≤ _; rw [h2.1]; omega, by show (Cn.normN 7 x).mx.length ≤ _; rw [h2.2.1]; exact Nat.le_refl _⟩
  ·exact absurd h (by simp)
 ·exact ⟨Nat.zero_le _, Nat.zero_le _⟩
theorem told_diag (x : Cn.In) : (Cn.told x).2.length ≤ 16 := by
 unfold Cn.told
 split
 ·exact Nat.zero_le _
 ·unfold allD; rw [List.length_take]; omega
theorem opT_le (s : ByteArray) : (opT s).size ≤ s.size := by
 have h : (Pk.opn s.data.toList).1.length ≤ s.data.toList.length := by
  unfold Pk.opn
  split
  ·simp
  ·split
   ·simp
   ·simp only [List.length_take]; omega
 unfold opT
 rw [Evs.S_size]
 rw [Evs.size_len] at h
 exact h
theorem get_len (s : ByteArray) : (get s).1.nodes.length ≤ 400 ∧ (get s).1.mx.length ≤ s.size ∧ (get s).2.length ≤ 16 := by
 unfold get
 split
 ·rename_i hc
  have h1 := told_len (readX (opT s) (opened s 1))
  refine ⟨h1.1, Nat.le_trans h1.2 ?_, told_diag _⟩
  have hok0 := ok_opened s 1
  have hokn : Ok (opT s) (readN (opT s) (opened s 1)).2 := ok_nodesN _ _ _ (ok_count (ok_nums (ok_text hok0) 5))
  exact Nat.le_trans (list_len hokn) (opT_le s)
 ·exact ⟨Nat.zero_le _, Nat.zero_le _, by simp⟩
theorem routes_rows (s : ByteArray) : ∀ (n : Nat) (l : List (List Int)) (st : St), Ok s st → (∀ r ∈ l, r.length ≤ s.size) → ∀ r ∈ (routesN s n l st).1, r.length ≤ s.size
  | 0, l, st, _, h => h
  | n + 1, l, st, hok, h => by
    unfold routesN
    split
    · refine routes_rows s n _ _ (ok_list hok) (fun r hr => ?_)
      rcases List.mem_append.1 hr with hr | hr
      · exact h r hr
      · rw [List.mem_singleton.1 hr]; exact list_len hok
    · exact h
theorem getPlan_len (s : ByteArray) : (getPlan s).1.length ≤ s.size ∧ ∀ r ∈ (getPlan s).1, r.length ≤ s.size := by
 unfold getPlan
 have hok0 := ok_opened s 2
 have ho := opT_le s
 split
 ·refine ⟨?_, fun r hr => Nat.le_trans (routes_rows (opT s) _ [] _ (ok_count hok0) (fun r hr => by simp at hr) r hr) ho⟩
  have h1 := routesN_len (opT s) (count (opT s) (opened s 2)).1.toNat [] (count (opT s) (opened s 2)).2
  have h2 := count_le hok0
  show (routesN (opT s) (count (opT s) (opened s 2)).1.toNat [] (count (opT s) (opened s 2)).2).1.length ≤ _
  simp at h1; omega
 ·exact ⟨Nat.zero_le _, fun r hr => by simp at hr⟩
end Rr
end Go.Proofs.YtofklpphalalhaaGreatDoor
end
