/- ref08.Check, walked by hand: the faults of canon's plain law, where the reference's parts come to the same. Conditions: at most 1000000000 nodes and numbers. -/
import Derived.Test.YtofklpphalalhaaGreatDoorUhJ10
import Derived.Test.YtofklpphalalhaaGreatDoorUhPAllx4
import Derived.Test.YtofklpphalalhaaGreatDoorUhPAllx5
import Derived.Test.YtofklpphalalhaaGreatDoorUhPAllx6
import Derived.Test.YtofklpphalalhaaGreatDoorUhPAllx7
import Derived.Deep.DeepCutAuto
namespace Go.Proofs.YtofklpphalalhaaGreatDoor
set_option linter.unusedVariables false
set_option linter.unusedSimpArgs false
open Go.RowKit Go.Proofs.YtofklpphalalhaaGreatDoor.PAll Go.Proofs.YtofklpphalalhaaGreatDoorW.PrintWords Go.Proofs.YtofklpphalalhaaGreatDoorW.PrintLast Go.Proofs.YtofklpphalalhaaGreatDoorW.PrintMore
theorem info199 : (Tryz.prog.info? 199).map (fun i => (i.zero, i.size, i.bytes)) = some (some (.agg #[.int .i64 0, .int .i64 0]), 2, 16) := by kernel_rfl
/-- What the reference's parts come to. -/
structure RF (x : Cn.In) (l : List S128) : Prop where
 len : l.length = x.nodes.length
 name : ∃ k, entrepotref03_Name.f k x.nm = some (Cn.name x)
 known : entrepotref06_Known.f x.metric = some (Cn.known x.metric)
 matrix : x.nodes.length ≤ 400 → ∃ k, entrepotref08_matrix.f k x.nm x.kind x.metric x.scale x.cap x.fleet l x.mx = some (Cn.matrix x)
 coord : ∀ i, i < x.nodes.length → entrepotref08_coord.f x.nm x.kind x.metric x.scale x.cap x.fleet l x.mx (i : Int) = some (Cn.coord x (rd_T71 x.nodes i))
 demand : ∀ i, i < x.nodes.length → ∃ k, entrepotref08_demand.f k x.nm x.kind x.metric x.scale x.cap x.fleet l x.mx (i : Int) = some (Cn.demand x (rd_T71 x.nodes i) i)
 window : ∀ i, i < x.nodes.length → ∃ k, entrepotref08_window.f k x.nm x.kind x.metric x.scale x.cap x.fleet l x.mx (i : Int) = some (Cn.window x (rd_T71 x.nodes i))
 service : ∀ i, i < x.nodes.length → entrepotref08_service.f x.nm x.kind x.metric x.scale x.cap x.fleet l x.mx (i : Int) = some (Cn.service x (rd_T71 x.nodes i))
 mate : ∀ i, i < x.nodes.length → ∃ k, entrepotref08_mate.f k x.nm x.kind x.metric x.scale x.cap x.fleet l x.mx (i : Int) = some (Cn.mate x (rd_T71 x.nodes i) i)
abbrev rinB (x : Cn.In) (v6 v7 : Value) : Obj := .cells #[.string x.nm, .int .i64 x.kind, .int .i64 x.metric, .int .i64 x.scale, .int .i64 x.cap, .int .i64 x.fleet, v6, v7] 51
/-- What the reference's Check has: its box, and the faults so far. -/
def RS (w W : World) (x : Cn.In) (v6 v7 v3 : Value) (fs : List S169) (m : Nat) : Prop :=
 W.heap[w.heap.size]? = some (rinB x v6 v7) ∧ W.ownsRow w.heap.size 199 2 v3 fs.length (flatF fs) ∧ Below w.heap.size w W ∧ fs.length ≤ m
section
variable {w W W' : World} {x : Cn.In} {v6 v7 v3 : Value} {fs : List S169} {m : Nat}
theorem RS.bel (h : RS w W x v6 v7 v3 fs m) : Below w.heap.size w W := h.2.2.1
theorem RS.cell (h : RS w W x v6 v7 v3 fs m) (j : Nat) (v : Value) (hj : (#[Value.string x.nm, .int .i64 x.kind, .int .i64 x.metric, .int .i64 x.scale, .int .i64 x.cap, .int .i64 x.fleet, v6, v7])[j]? = some v) : W.cell? ⟨w.heap.size, j, none⟩ = some v := by
 rw [Lib.cell_of_heap h.1]; exact hj
theorem RS.below (h : RS w W x v6 v7 v3 fs m) (hb : Below W.heap.size W W') : RS w W' x v6 v7 v3 fs m := by
 obtain ⟨h1, h2, h3, h4⟩ := h
 exact ⟨(hb.block _ (Array.getElem?_eq_some_iff.1 h1).1).trans h1, pw_own_below h2 hb, h3.trans (hb.mono h3.size), h4⟩
theorem RS.more (h : RS w W x v6 v7 v3 fs m) (n : Nat) (hn : m ≤ n) : RS w W x v6 v7 v3 fs n := ⟨h.1, h.2.1, h.2.2.1, Nat.le_trans h.2.2.2 hn⟩
theorem RS.full (h : RS w W x v6 v7 v3 fs m) : ∀ o, W.cell? ⟨w.heap.size, o, none⟩ = (#[Value.string x.nm, .int .i64 x.kind, .int .i64 x.metric, .int .i64 x.scale, .int .i64 x.cap, .int .i64 x.fleet, v6, v7])[o]? := fun o => by rw [Lib.cell_of_heap h.1]
theorem wpList_note {ops : Array Oper} {rest : List Oper} {o : Oper} {a : Act} {Q : Exit → Act → World → Prop} (h : RS w W x v6 v7 v3 fs m) (hm : m ≤ 1000000) (f n : Int) (hgd : o.guard = none) (s y : Operand)
  (ho : o.op = .call { callee := .builtin .append, args := #[s, y], argTypes := #[154, 154] }) (hs : a.eval s = v3) (hy : a.eval y = .slice (some ⟨W.heap.size, 0, none⟩) 1 1)
  (hk : ∀ v' w', RS w w' x v6 v7 v' (fs ++ [⟨f, n⟩]) (m + 1) → wpList Tryz.prog ops Q rest (a.put o.dst v') w') : wpList Tryz.prog ops Q (o :: rest) a (W.alloc (.cells #[.int .i64 f, .int .i64 n] 199)) := by
 obtain ⟨h1, h2, h3, h4⟩ := h
 obtain ⟨i0, hi, hz0, hz1, hz2⟩ := info_parts info199
 have hnew : (W.alloc (.cells #[.int .i64 f, .int .i64 n] 199)).heap[W.heap.size]? = some (.cells #[.int .i64 f, .int .i64 n] 199) := Array.getElem?_push_size
 have hbs := h3.size
 have hal : Below W.heap.size W (W.alloc (.cells #[.int .i64 f, .int .i64 n] 199)) := below_one _ _
 have hown := pw_own_below h2 hal
 refine wpList_append_own _ hgd s y 154 ho w.heap.size 199 i0 (.agg #[.int .i64 0, .int .i64 0]) 2 16 Tryz.underlying154 hi hz0 hz1 hz2 rfl (by decide) v3 fs.length (flatF fs) hs hown ⟨W.heap.size, 0, none⟩ 1 1 [.int .i64 f, .int .i64 n] hy rfl (fun j u hu => ?_) (fun u hu => ?_) (by simp only [maxLen]; omega) (by omega) (by simp; omega) (fun v' w' ho' hg _ => ?_)
 ·match j, hu with
  | 0, hu => simp only [List.getElem?_cons_zero, Option.some.injEq] at hu; subst hu; show World.cell? _ ⟨W.heap.size, 0, none⟩ = _; rw [Lib.cell_of_heap hnew]; rfl
  | 1, hu => simp at hu; subst hu; show World.cell? _ ⟨W.heap.size, 0 + 1, none⟩ = _; rw [Lib.cell_of_heap hnew]; rfl
 ·simp at hu; rcases hu with rfl | rfl <;> rfl
 ·have hne : v3.ownBlock ≠ some w.heap.size := by
   intro e
   obtain ⟨c, hc⟩ := own_typed h2 _ e
   rw [hc] at h1; simp at h1
  refine hk v' w' ⟨?_, ?_, ?_, ?_⟩
  ·rw [hg.block _ (by have := (Array.getElem?_eq_some_iff.1 h1).1; simp; omega) (fun e => hne e.symm)]
   exact (Below.heap_alloc _ _ _ (Array.getElem?_eq_some_iff.1 h1).1).trans h1
  ·have : flatF (fs ++ [⟨f, n⟩]) = flatF fs ++ [.int .i64 f, .int .i64 n] := by rw [flatF_append]; rfl
   rw [this, List.length_append]; exact ho'
  ·exact (h3.trans (hal.mono hbs)).grown hg (by simp; omega) (fun k hk => (hown.lt k hk).1)
  ·rw [List.length_append]; simp; omega
theorem RS.start (w : World) (x : Cn.In) (v6 v7 : Value) (t : Nat) : RS w ((w.alloc (rinB x v6 v7)).alloc (.cells #[] 199)) x v6 v7 (.slice (some ⟨w.heap.size + 1, 0, none⟩) 0 0) [] 0 := by
 have h := two_blocks w (rinB x v6 v7) (.cells #[] 199)
 exact ⟨h.1, ⟨rfl, .inr ⟨w.heap.size + 1, 0, #[], rfl, by omega, h.2, Nat.le_refl _, by decide, rfl, rfl⟩⟩, below_two _ _ _, Nat.le_refl _⟩
end
theorem Cn.step_of (x : Cn.In) (k : Nat) {fs gs0 gs1 gs2 gs3 gs4 : List S169} {b9 b10 b11 b12 b13 : Bool} (h9 : Cn.coord x (rd_T71 x.nodes k) = b9) (h10 : Cn.demand x (rd_T71 x.nodes k) k = b10) (h11 : Cn.window x (rd_T71 x.nodes k) = b11) (h12 : Cn.service x (rd_T71 x.nodes k) = b12) (h13 : Cn.mate x (rd_T71 x.nodes k) k = b13)
  (e0 : fs ++ Cn.nodesF x k = gs0) (e1 : gs0 ++ Cn.nt b9 9 (k : Int) = gs1) (e2 : gs1 ++ Cn.nt b10 10 (k : Int) = gs2) (e3 : gs2 ++ Cn.nt b11 11 (k : Int) = gs3) (e4 : gs3 ++ Cn.nt b12 12 (k : Int) = gs4) :
  gs4 ++ Cn.nt b13 13 (k : Int) = fs ++ Cn.nodesF x (k + 1) := by
 rw [← e4, ← e3, ← e2, ← e1, ← e0, Cn.nodesF_succ]
 unfold Cn.nodeF
 rw [h9, h10, h11, h12, h13]
 simp only [List.append_assoc]
theorem test2 (x : Cn.In) : (decide (x.kind < 1) || decide (4 < x.kind)) = !(Cn.btw x.kind 1 4) := by
 unfold Cn.btw; rw [Bool.eq_iff_iff]; simp <;> omega
theorem test4 (x : Cn.In) : ((decide (x.scale < 0) || decide (6 < x.scale)) || (x.metric == 0 && x.scale != 0)) = !(Cn.scal x) := by
 unfold Cn.scal Cn.btw; rw [Bool.eq_iff_iff]; simp <;> omega
theorem test5 (x : Cn.In) : ((x.kind == 1 && x.cap != 0) || (x.kind != 1 && (decide (x.cap < 1) || decide (100000000 < x.cap)))) = !(Cn.limit x x.cap 1 100000000) := by
 unfold Cn.limit Cn.btw; rw [Bool.eq_iff_iff]; split <;> (simp_all; try omega)
theorem test6 (x : Cn.In) : ((x.kind == 1 && x.fleet != 0) || (x.kind != 1 && (decide (x.fleet < 0) || decide (400 < x.fleet)))) = !(Cn.limit x x.fleet 0 400) := by
 unfold Cn.limit Cn.btw; rw [Bool.eq_iff_iff]; split <;> (simp_all; try omega)
set_option maxRecDepth 100000 in
set_option maxHeartbeats 16000000 in
theorem refCheck_walk (x : Cn.In) (l : List S128) (hRF : RF x l) (A6 A7 : Option Addr) (c6 c7 : Nat) (w : World) (h6 : x.nodes.length ≤ 1000000000) (hc6 : l.length ≤ c6) (hc7 : x.mx.length ≤ c7) (hC6 : Kd.C k128 w A6 l.length l) (hC7 : Kd.C (Kd.int .i64) w A7 x.mx.length x.mx) :
    Calls Tryz.prog 104 #[.agg #[.string x.nm, .int .i64 x.kind, .int .i64 x.metric, .int .i64 x.scale, .int .i64 x.cap, .int .i64 x.fleet, .slice A6 l.length c6, .slice A7 x.mx.length c7]] w fun e w' => ∃ v, e = .returned v ∧ w'.ownsRow w.heap.size 199 2 v (Cn.check x).length (flatF (Cn.check x)) ∧ Below w.heap.size w w' := by
  have HRF := Aside0.mk hRF
  have HC6 := Aside0.mk hC6
  have HC7 := Aside0.mk hC7
  have HST := Aside0.mk (RS.start w x (.slice A6 l.length c6) (.slice A7 x.mx.length c7) 0)
  obtain ⟨F, hF⟩ : ∃ F, Cn.check x = F := ⟨_, rfl⟩
  rw [hF]
  replace hF := Aside0.mk hF
  have hll := hRF.len
  clear hC6 hC7 hRF
  go_enter Tryz.func104, Tryz.ntmps104
  obtain ⟨fs0, hfs0⟩ : ∃ fs : List S169, [] = fs := ⟨_, rfl⟩
  rw [hfs0] at HST
  replace hfs0 := Aside0.mk hfs0
  replace hll := Aside0.mk hll
  have HLx : Aside0 (RS w ((w.alloc (rinB x (.slice A6 l.length c6) (.slice A7 x.mx.length c7))).alloc (.cells #[] 199)) x (.slice A6 l.length c6) (.slice A7 x.mx.length c7) (.slice (some ⟨w.heap.size + 1, 0, none⟩) 0 0) fs0 0) := HST
  go_upto_region 2 with (fail)
  obtain ⟨b, hb⟩ : ∃ b, Cn.name x = b := ⟨_, rfl⟩
  have HB1 := Aside0.mk hb
  have c0 := HST.out.cell 0 _ rfl
  obtain ⟨k, hk⟩ := HRF.out.name
  rw [hb] at hk
  have HK := Aside0.mk hk
  clear hk hb
  go_wp2_with fail
  refine (entrepotref03_Name.calls k x.nm b _ HK.out).mono ?_
  rintro e w2 ⟨rfl, hd⟩
  replace HST := Aside0.mk (HST.out.below hd.below)
  clear hd c0 HK
  go_upto_if 10 with (fail)
  go_cut [3] from 7 to 14 (fun v3 wc => RS w wc x (.slice A6 l.length c6) (.slice A7 x.mx.length c7) v3 (fs0 ++ Cn.nt b 1 0) 1)
  case first =>
    cases b with
    | true =>
      have HS3 : Aside0 (RS w _ x (.slice A6 l.length c6) (.slice A7 x.mx.length c7) _ (fs0 ++ Cn.nt true 1 0) 1) := ⟨by simpa [Cn.nt] using HST.out.more 1 (by omega)⟩
      go_wp2_with fail
      go_meet
      case rel => exact HS3.out
    | false =>
      go_wp2_with (at_builtin; refine wpList_note HST.out (by omega) 1 0 rfl _ _ rfl rfl rfl ?_)
      intro v' w3 hs3
      have HS3 := Aside0.mk hs3
      clear hs3
      go_wp2_with fail
      go_meet
      case rel => exact HS3.out
  case rest =>
    replace HST := Aside0.mk hcut
    clear hcut
    obtain ⟨fs1, hfs1⟩ : ∃ fs, fs0 ++ Cn.nt b 1 0 = fs := ⟨_, rfl⟩
    rw [hfs1] at HST
    replace hfs1 := Aside0.mk hfs1
    go_upto_region 4 with (fail)
    obtain ⟨b, hb⟩ : ∃ b, Cn.btw x.kind 1 4 = b := ⟨_, rfl⟩
    have HB2 := Aside0.mk hb
    have c1 := HST.out.cell 1 _ rfl
    have hE : (decide (x.kind < 1) || decide (4 < x.kind)) = !b := by rw [← hb]; exact test2 x
    have HE := Aside0.mk hE
    clear hb hE
    go_cut [22] from 15 to 26 (fun t wc => t = .bool (!b) ∧ RS w wc x (.slice A6 l.length c6) (.slice A7 x.mx.length c7) u3 fs1 1)
    case first =>
      obtain ⟨p1, hp1⟩ : ∃ q, decide (x.kind < 1) = q := ⟨_, rfl⟩
      obtain ⟨p2, hp2⟩ : ∃ q, decide (4 < x.kind) = q := ⟨_, rfl⟩
      have HE2 := HE.out
      clear HE
      rw [hp1, hp2] at HE2
      replace HE2 := Aside0.mk HE2
      cases p1 with
      | false =>
        have HBB : _ = !b := HE2.out
        go_wp2_with fail
        go_meet
        case rel => exact ⟨congrArg Value.bool (by simp), HST.out⟩
      | true =>
        have HBB : _ = !b := HE2.out
        go_wp2_with fail
        go_meet
        case rel => exact ⟨congrArg Value.bool (by simpa using HBB), HST.out⟩
    case rest =>
      obtain ⟨rfl, hcut⟩ := hcut
      replace HST := Aside0.mk hcut
      clear hcut
      clear c1
      go_upto_if 22 with (fail)
      go_cut [3] from 15 to 26 (fun v3 wc => RS w wc x (.slice A6 l.length c6) (.slice A7 x.mx.length c7) v3 (fs1 ++ Cn.nt b 2 0) 2)
      case first =>
        cases b with
        | true =>
          have HS3 : Aside0 (RS w _ x (.slice A6 l.length c6) (.slice A7 x.mx.length c7) _ (fs1 ++ Cn.nt true 2 0) 2) := ⟨by simpa [Cn.nt] using HST.out.more 2 (by omega)⟩
          go_wp2_with fail
          go_meet
          case rel => exact HS3.out
        | false =>
          go_wp2_with (at_builtin; refine wpList_note HST.out (by omega) 2 0 rfl _ _ rfl rfl rfl ?_)
          intro v' w3 hs3
          have HS3 := Aside0.mk hs3
          clear hs3
          go_wp2_with fail
          go_meet
          case rel => exact HS3.out
      case rest =>
        replace HST := Aside0.mk hcut
        clear hcut
        obtain ⟨fs2, hfs2⟩ : ∃ fs, fs1 ++ Cn.nt b 2 0 = fs := ⟨_, rfl⟩
        rw [hfs2] at HST
        replace hfs2 := Aside0.mk hfs2
        go_upto_region 6 with (fail)
        obtain ⟨b, hb⟩ : ∃ b, Cn.known x.metric = b := ⟨_, rfl⟩
        have HB3 := Aside0.mk hb
        have c0 := HST.out.cell 2 _ rfl
        have hk := HRF.out.known
        rw [hb] at hk
        have HK := Aside0.mk hk
        clear hk hb
        go_wp2_with fail
        refine (entrepotref06_Known.calls x.metric b _ HK.out).mono ?_
        rintro e w2 ⟨rfl, hd⟩
        replace HST := Aside0.mk (HST.out.below hd.below)
        clear hd c0 HK
        go_upto_if 30 with (fail)
        go_cut [3] from 27 to 34 (fun v3 wc => RS w wc x (.slice A6 l.length c6) (.slice A7 x.mx.length c7) v3 (fs2 ++ Cn.nt b 3 0) 3)
        case first =>
          cases b with
          | true =>
            have HS3 : Aside0 (RS w _ x (.slice A6 l.length c6) (.slice A7 x.mx.length c7) _ (fs2 ++ Cn.nt true 3 0) 3) := ⟨by simpa [Cn.nt] using HST.out.more 3 (by omega)⟩
            go_wp2_with fail
            go_meet
            case rel => exact HS3.out
          | false =>
            go_wp2_with (at_builtin; refine wpList_note HST.out (by omega) 3 0 rfl _ _ rfl rfl rfl ?_)
            intro v' w3 hs3
            have HS3 := Aside0.mk hs3
            clear hs3
            go_wp2_with fail
            go_meet
            case rel => exact HS3.out
        case rest =>
          replace HST := Aside0.mk hcut
          clear hcut
          obtain ⟨fs3, hfs3⟩ : ∃ fs, fs2 ++ Cn.nt b 3 0 = fs := ⟨_, rfl⟩
          rw [hfs3] at HST
          replace hfs3 := Aside0.mk hfs3
          go_upto_region 8 with (fail)
          obtain ⟨b, hb⟩ : ∃ b, Cn.scal x = b := ⟨_, rfl⟩
          have HB4 := Aside0.mk hb
          have c2 := HST.out.cell 2 _ rfl
          have c3 := HST.out.cell 3 _ rfl
          have hE : ((decide (x.scale < 0) || decide (6 < x.scale)) || (x.metric == 0 && x.scale != 0)) = !b := by rw [← hb]; exact test4 x
          have HE := Aside0.mk hE
          clear hb hE
          go_cut [52] from 35 to 56 (fun t wc => t = .bool (!b) ∧ RS w wc x (.slice A6 l.length c6) (.slice A7 x.mx.length c7) u3 fs3 3)
          case first =>
            obtain ⟨p1, hp1⟩ : ∃ q, decide (x.scale < 0) = q := ⟨_, rfl⟩
            obtain ⟨p2, hp2⟩ : ∃ q, decide (6 < x.scale) = q := ⟨_, rfl⟩
            obtain ⟨p3, hp3⟩ : ∃ q, (x.metric == 0) = q := ⟨_, rfl⟩
            obtain ⟨p4, hp4⟩ : ∃ q, (x.scale != 0) = q := ⟨_, rfl⟩
            have HE2 := HE.out
            clear HE
            rw [hp1, hp2, hp3, hp4] at HE2
            replace HE2 := Aside0.mk HE2
            cases p1 with
            | false =>
              cases p2 with
              | false =>
                cases p3 with
                | false =>
                  have HBB : _ = !b := HE2.out
                  go_wp2_with fail
                  go_meet
                  case rel => exact ⟨congrArg Value.bool (by simpa using HBB), HST.out⟩
                | true =>
                  have HBB : _ = !b := HE2.out
                  go_wp2_with fail
                  go_meet
                  case rel => exact ⟨congrArg Value.bool (by simpa using HBB), HST.out⟩
              | true =>
                have HBB : _ = !b := HE2.out
                go_wp2_with fail
                go_meet
                case rel => exact ⟨congrArg Value.bool (by simpa using HBB), HST.out⟩
            | true =>
              have HBB : _ = !b := HE2.out
              go_wp2_with fail
              go_meet
              case rel => exact ⟨congrArg Value.bool (by simpa using HBB), HST.out⟩
          case rest =>
            obtain ⟨rfl, hcut⟩ := hcut
            replace HST := Aside0.mk hcut
            clear hcut
            clear c2 c3
            go_upto_if 52 with (fail)
            go_cut [3] from 35 to 56 (fun v3 wc => RS w wc x (.slice A6 l.length c6) (.slice A7 x.mx.length c7) v3 (fs3 ++ Cn.nt b 4 0) 4)
            case first =>
              cases b with
              | true =>
                have HS3 : Aside0 (RS w _ x (.slice A6 l.length c6) (.slice A7 x.mx.length c7) _ (fs3 ++ Cn.nt true 4 0) 4) := ⟨by simpa [Cn.nt] using HST.out.more 4 (by omega)⟩
                go_wp2_with fail
                go_meet
                case rel => exact HS3.out
              | false =>
                go_wp2_with (at_builtin; refine wpList_note HST.out (by omega) 4 0 rfl _ _ rfl rfl rfl ?_)
                intro v' w3 hs3
                have HS3 := Aside0.mk hs3
                clear hs3
                go_wp2_with fail
                go_meet
                case rel => exact HS3.out
            case rest =>
              replace HST := Aside0.mk hcut
              clear hcut
              obtain ⟨fs4, hfs4⟩ : ∃ fs, fs3 ++ Cn.nt b 4 0 = fs := ⟨_, rfl⟩
              rw [hfs4] at HST
              replace hfs4 := Aside0.mk hfs4
              go_upto_region 10 with (fail)
              obtain ⟨b, hb⟩ : ∃ b, Cn.limit x x.cap 1 100000000 = b := ⟨_, rfl⟩
              have HB5 := Aside0.mk hb
              have c1 := HST.out.cell 1 _ rfl
              have c4 := HST.out.cell 4 _ rfl
              have hE : ((x.kind == 1 && x.cap != 0) || (x.kind != 1 && (decide (x.cap < 1) || decide (100000000 < x.cap)))) = !b := by rw [← hb]; exact test5 x
              have HE := Aside0.mk hE
              clear hb hE
              go_cut [79] from 57 to 83 (fun t wc => t = .bool (!b) ∧ RS w wc x (.slice A6 l.length c6) (.slice A7 x.mx.length c7) u3 fs4 4)
              case first =>
                obtain ⟨p1, hp1⟩ : ∃ q, (x.kind == 1) = q := ⟨_, rfl⟩
                obtain ⟨p2, hp2⟩ : ∃ q, (x.cap != 0) = q := ⟨_, rfl⟩
                obtain ⟨p3, hp3⟩ : ∃ q, decide (x.cap < 1) = q := ⟨_, rfl⟩
                obtain ⟨p4, hp4⟩ : ∃ q, decide (100000000 < x.cap) = q := ⟨_, rfl⟩
                have HE2 := HE.out
                clear HE
                have hne : (x.kind != 1) = !p1 := by rw [← hp1]; rfl
                rw [hne] at HE2
                rw [hp1, hp2, hp3, hp4] at HE2
                replace HE2 := Aside0.mk HE2
                cases p1 with
                | false =>
                  cases p3 with
                  | false =>
                    have HBB : _ = !b := HE2.out
                    go_wp2_with fail
                    go_meet
                    case rel => exact ⟨congrArg Value.bool (by simpa using HBB), HST.out⟩
                  | true =>
                    have HBB : _ = !b := HE2.out
                    go_wp2_with fail
                    go_meet
                    case rel => exact ⟨congrArg Value.bool (by simpa using HBB), HST.out⟩
                | true =>
                  cases p2 with
                  | false =>
                    have HBB : _ = !b := HE2.out
                    go_wp2_with fail
                    go_meet
                    case rel => exact ⟨congrArg Value.bool (by simpa using HBB), HST.out⟩
                  | true =>
                    have HBB : _ = !b := HE2.out
                    go_wp2_with fail
                    go_meet
                    case rel => exact ⟨congrArg Value.bool (by simpa using HBB), HST.out⟩
              case rest =>
                obtain ⟨rfl, hcut⟩ := hcut
                replace HST := Aside0.mk hcut
                clear hcut
                clear c1 c4
                go_upto_if 79 with (fail)
                go_cut [3] from 57 to 83 (fun v3 wc => RS w wc x (.slice A6 l.length c6) (.slice A7 x.mx.length c7) v3 (fs4 ++ Cn.nt b 5 0) 5)
                case first =>
                  cases b with
                  | true =>
                    have HS3 : Aside0 (RS w _ x (.slice A6 l.length c6) (.slice A7 x.mx.length c7) _ (fs4 ++ Cn.nt true 5 0) 5) := ⟨by simpa [Cn.nt] using HST.out.more 5 (by omega)⟩
                    go_wp2_with fail
                    go_meet
                    case rel => exact HS3.out
                  | false =>
                    go_wp2_with (at_builtin; refine wpList_note HST.out (by omega) 5 0 rfl _ _ rfl rfl rfl ?_)
                    intro v' w3 hs3
                    have HS3 := Aside0.mk hs3
                    clear hs3
                    go_wp2_with fail
                    go_meet
                    case rel => exact HS3.out
                case rest =>
                  replace HST := Aside0.mk hcut
                  clear hcut
                  obtain ⟨fs5, hfs5⟩ : ∃ fs, fs4 ++ Cn.nt b 5 0 = fs := ⟨_, rfl⟩
                  rw [hfs5] at HST
                  replace hfs5 := Aside0.mk hfs5
                  go_upto_region 12 with (fail)
                  obtain ⟨b, hb⟩ : ∃ b, Cn.limit x x.fleet 0 400 = b := ⟨_, rfl⟩
                  have HB6 := Aside0.mk hb
                  have c1 := HST.out.cell 1 _ rfl
                  have c5 := HST.out.cell 5 _ rfl
                  have hE : ((x.kind == 1 && x.fleet != 0) || (x.kind != 1 && (decide (x.fleet < 0) || decide (400 < x.fleet)))) = !b := by rw [← hb]; exact test6 x
                  have HE := Aside0.mk hE
                  clear hb hE
                  go_cut [106] from 84 to 110 (fun t wc => t = .bool (!b) ∧ RS w wc x (.slice A6 l.length c6) (.slice A7 x.mx.length c7) u3 fs5 5)
                  case first =>
                    obtain ⟨p1, hp1⟩ : ∃ q, (x.kind == 1) = q := ⟨_, rfl⟩
                    obtain ⟨p2, hp2⟩ : ∃ q, (x.fleet != 0) = q := ⟨_, rfl⟩
                    obtain ⟨p3, hp3⟩ : ∃ q, decide (x.fleet < 0) = q := ⟨_, rfl⟩
                    obtain ⟨p4, hp4⟩ : ∃ q, decide (400 < x.fleet) = q := ⟨_, rfl⟩
                    have HE2 := HE.out
                    clear HE
                    have hne : (x.kind != 1) = !p1 := by rw [← hp1]; rfl
                    rw [hne] at HE2
                    rw [hp1, hp2, hp3, hp4] at HE2
                    replace HE2 := Aside0.mk HE2
                    cases p1 with
                    | false =>
                      cases p3 with
                      | false =>
                        have HBB : _ = !b := HE2.out
                        go_wp2_with fail
                        go_meet
                        case rel => exact ⟨congrArg Value.bool (by simpa using HBB), HST.out⟩
                      | true =>
                        have HBB : _ = !b := HE2.out
                        go_wp2_with fail
                        go_meet
                        case rel => exact ⟨congrArg Value.bool (by simpa using HBB), HST.out⟩
                    | true =>
                      cases p2 with
                      | false =>
                        have HBB : _ = !b := HE2.out
                        go_wp2_with fail
                        go_meet
                        case rel => exact ⟨congrArg Value.bool (by simpa using HBB), HST.out⟩
                      | true =>
                        have HBB : _ = !b := HE2.out
                        go_wp2_with fail
                        go_meet
                        case rel => exact ⟨congrArg Value.bool (by simpa using HBB), HST.out⟩
                  case rest =>
                    obtain ⟨rfl, hcut⟩ := hcut
                    replace HST := Aside0.mk hcut
                    clear hcut
                    clear c1 c5
                    go_upto_if 106 with (fail)
                    go_cut [3] from 84 to 110 (fun v3 wc => RS w wc x (.slice A6 l.length c6) (.slice A7 x.mx.length c7) v3 (fs5 ++ Cn.nt b 6 0) 6)
                    case first =>
                      cases b with
                      | true =>
                        have HS3 : Aside0 (RS w _ x (.slice A6 l.length c6) (.slice A7 x.mx.length c7) _ (fs5 ++ Cn.nt true 6 0) 6) := ⟨by simpa [Cn.nt] using HST.out.more 6 (by omega)⟩
                        go_wp2_with fail
                        go_meet
                        case rel => exact HS3.out
                      | false =>
                        go_wp2_with (at_builtin; refine wpList_note HST.out (by omega) 6 0 rfl _ _ rfl rfl rfl ?_)
                        intro v' w3 hs3
                        have HS3 := Aside0.mk hs3
                        clear hs3
                        go_wp2_with fail
                        go_meet
                        case rel => exact HS3.out
                    case rest =>
                      replace HST := Aside0.mk hcut
                      clear hcut
                      obtain ⟨fs6, hfs6⟩ : ∃ fs, fs5 ++ Cn.nt b 6 0 = fs := ⟨_, rfl⟩
                      rw [hfs6] at HST
                      replace hfs6 := Aside0.mk hfs6
                      have hhd : Cn.heads x = fs6 := by
                        rw [← hfs6.out, ← hfs5.out, ← hfs4.out, ← hfs3.out, ← hfs2.out, ← hfs1.out, ← hfs0.out]
                        unfold Cn.heads
                        rw [HB1.out, HB2.out, HB3.out, HB4.out, HB5.out, HB6.out]
                        simp
                      clear HB1 HB2 HB3 HB4 HB5 HB6 hfs0 hfs1 hfs2 hfs3 hfs4 hfs5 hfs6
                      have c6' := HST.out.cell 6 _ rfl
                      rcases (show (l.length = 0 ∨ 400 < l.length) ∨ (1 ≤ l.length ∧ l.length ≤ 400) by omega) with hbad | hgood
                      · have hFe : Aside0 (F = fs6 ++ [⟨7, 0⟩]) := ⟨by
                          rw [← hF.out, ← hhd]; unfold Cn.check
                          rw [if_neg (show ¬ (Cn.btw x.nodes.length 1 400 = true) by unfold Cn.btw; have := hll.out; simp; omega)]⟩
                        clear hhd
                        have hfin : ∀ (w' : World) (v : Value), RS w w' x (.slice A6 l.length c6) (.slice A7 x.mx.length c7) v (fs6 ++ [⟨7, 0⟩]) 7 → ∃ v0, Ending.returned v = .returned v0 ∧ w'.ownsRow w.heap.size 199 2 v0 F.length (flatF F) ∧ Below w.heap.size w w' := fun w' v h => ⟨v, rfl, by rw [hFe.out]; exact h.2.1, h.bel⟩
                        have HFIN := Aside0.mk hfin
                        clear hfin
                        rcases hbad with h0 | h4
                        · have hd1 : (l.length : Int) < 1 := by omega
                          go_wp2_with (at_builtin; refine wpList_note HST.out (by omega) 7 0 rfl _ _ rfl rfl rfl ?_)
                          intro v' w3 hs3
                          have HS3 := Aside0.mk hs3
                          clear hs3
                          go_wp2_with fail
                          go_ret
                          exact HFIN.out _ _ (by first | exact HS3.out | (rw [h0] at *; exact HS3.out))
                        · have hd1 : ¬ ((l.length : Int) < 1) := by omega
                          have hd2 : (400 : Int) < (l.length : Int) := by omega
                          go_wp2_with (at_builtin; refine wpList_note HST.out (by omega) 7 0 rfl _ _ rfl rfl rfl ?_)
                          intro v' w3 hs3
                          have HS3 := Aside0.mk hs3
                          clear hs3
                          go_wp2_with fail
                          go_ret
                          exact HFIN.out _ _ (by first | exact HS3.out | (rw [h0] at *; exact HS3.out))
                      · have hn4 : x.nodes.length ≤ 400 := by have := hll.out; omega
                        have hd1 : ¬ ((l.length : Int) < 1) := by omega
                        have hd2 : ¬ ((400 : Int) < (l.length : Int)) := by omega
                        have hFe : Aside0 (F = fs6 ++ Cn.nt (Cn.matrix x) 8 0 ++ Cn.nodesF x x.nodes.length) := ⟨by
                          rw [← hF.out, ← hhd]; unfold Cn.check
                          rw [if_pos (show Cn.btw x.nodes.length 1 400 = true by unfold Cn.btw; have := hll.out; simp; omega)]⟩
                        clear hhd
                        go_upto_region 17 with (fail)
                        clear c6'
                        obtain ⟨k, hk⟩ := HRF.out.matrix hn4
                        obtain ⟨b, hb⟩ : ∃ b, Cn.matrix x = b := ⟨_, rfl⟩
                        rw [hb] at hk hFe
                        have HK := Aside0.mk hk
                        clear hk hb
                        obtain ⟨d0, d1, d2, d3, d4, d5, d6, d7⟩ : wc.cell? ⟨w.heap.size, 0, none⟩ = some (Value.string x.nm) ∧ wc.cell? ⟨w.heap.size, 1, none⟩ = some (Value.int .i64 x.kind) ∧ wc.cell? ⟨w.heap.size, 2, none⟩ = some (Value.int .i64 x.metric) ∧ wc.cell? ⟨w.heap.size, 3, none⟩ = some (Value.int .i64 x.scale) ∧ wc.cell? ⟨w.heap.size, 4, none⟩ = some (Value.int .i64 x.cap) ∧ wc.cell? ⟨w.heap.size, 5, none⟩ = some (Value.int .i64 x.fleet) ∧ wc.cell? ⟨w.heap.size, 6, none⟩ = some (Value.slice A6 l.length c6) ∧ wc.cell? ⟨w.heap.size, 7, none⟩ = some (Value.slice A7 x.mx.length c7) := ⟨HST.out.cell 0 _ rfl, HST.out.cell 1 _ rfl, HST.out.cell 2 _ rfl, HST.out.cell 3 _ rfl, HST.out.cell 4 _ rfl, HST.out.cell 5 _ rfl, HST.out.cell 6 _ rfl, HST.out.cell 7 _ rfl⟩
                        go_wp2_with fail
                        refine (entrepotref08_matrix.calls k x.nm x.kind x.metric x.scale x.cap x.fleet A6 c6 l A7 c7 x.mx b _ (Kd.C_below HC6.out HST.out.bel) hc6 (Kd.C_below HC7.out HST.out.bel) hc7 HK.out).mono ?_
                        rintro e w2 ⟨rfl, hd⟩
                        replace HST := Aside0.mk (HST.out.below hd)
                        clear hd HK d0 d1 d2 d3 d4 d5 d6 d7
                        go_upto_if 126 with (fail)
                        go_cut [3] from 124 to 130 (fun v3 wc => RS w wc x (.slice A6 l.length c6) (.slice A7 x.mx.length c7) v3 (fs6 ++ Cn.nt b 8 0) 7)
                        case first =>
                          cases b with
                          | true =>
                            have HS3 : Aside0 (RS w _ x (.slice A6 l.length c6) (.slice A7 x.mx.length c7) _ (fs6 ++ Cn.nt true 8 0) 7) := ⟨by simpa [Cn.nt] using HST.out.more 7 (by omega)⟩
                            go_wp2_with fail
                            go_meet
                            case rel => exact HS3.out
                          | false =>
                            go_wp2_with (at_builtin; refine wpList_note HST.out (by omega) 8 0 rfl _ _ rfl rfl rfl ?_)
                            intro v' w3 hs3
                            have HS3 := Aside0.mk hs3
                            clear hs3
                            go_wp2_with fail
                            go_meet
                            case rel => exact HS3.out
                        case rest =>
                          replace HST := Aside0.mk hcut
                          clear hcut
                          obtain ⟨fs7, hfs7⟩ : ∃ fs, fs6 ++ Cn.nt b 8 0 = fs := ⟨_, rfl⟩
                          rw [hfs7] at HST hFe
                          clear hfs7
                          have HST0 : Aside0 (RS w wc x (.slice A6 l.length c6) (.slice A7 x.mx.length c7) u3 (fs7 ++ Cn.nodesF x 0) (7 + 5 * 0)) := ⟨by simpa [Cn.nodesF] using HST.out⟩
                          go_wp2_with fail
                          go_loopw [3, 5] (fun v3 v5 wr => ∃ k : Nat, k ≤ l.length ∧ v5 = .int .i64 k ∧ RS w wr x (.slice A6 l.length c6) (.slice A7 x.mx.length c7) v3 (fs7 ++ Cn.nodesF x k) (7 + 5 * k)) (fun _ v _ => l.length - (intOf v).toNat)
                          case atStart => exact ⟨0, Nat.zero_le _, rfl, HST0.out⟩
                          case round =>
                            clear HST HST0
                            obtain ⟨k, hk, rfl, hs⟩ := hrel
                            have HST := Aside0.mk hs
                            clear hs
                            by_cases hlt : k < l.length
                            · have hkx : k < x.nodes.length := by have := hll.out; omega
                              obtain ⟨gs0, hgs0⟩ : ∃ fs, fs7 ++ Cn.nodesF x k = fs := ⟨_, rfl⟩
                              rw [hgs0] at HST
                              replace hgs0 := Aside0.mk hgs0
                              have hk4 : k ≤ 400 := by omega
                              have hdk : (k : Int) < (l.length : Int) := by omega
                              go_upto_region 22 with (fail)
                              obtain ⟨b, hb⟩ : ∃ b, Cn.coord x (rd_T71 x.nodes k) = b := ⟨_, rfl⟩
                              have HB9 := Aside0.mk hb
                              have hj := HRF.out.coord k hkx
                              rw [hb] at hj
                              have HK := Aside0.mk hj
                              clear hj hb
                              obtain ⟨d0, d1, d2, d3, d4, d5, d6, d7⟩ : wr.cell? ⟨w.heap.size, 0, none⟩ = some (Value.string x.nm) ∧ wr.cell? ⟨w.heap.size, 1, none⟩ = some (Value.int .i64 x.kind) ∧ wr.cell? ⟨w.heap.size, 2, none⟩ = some (Value.int .i64 x.metric) ∧ wr.cell? ⟨w.heap.size, 3, none⟩ = some (Value.int .i64 x.scale) ∧ wr.cell? ⟨w.heap.size, 4, none⟩ = some (Value.int .i64 x.cap) ∧ wr.cell? ⟨w.heap.size, 5, none⟩ = some (Value.int .i64 x.fleet) ∧ wr.cell? ⟨w.heap.size, 6, none⟩ = some (Value.slice A6 l.length c6) ∧ wr.cell? ⟨w.heap.size, 7, none⟩ = some (Value.slice A7 x.mx.length c7) := ⟨HST.out.cell 0 _ rfl, HST.out.cell 1 _ rfl, HST.out.cell 2 _ rfl, HST.out.cell 3 _ rfl, HST.out.cell 4 _ rfl, HST.out.cell 5 _ rfl, HST.out.cell 6 _ rfl, HST.out.cell 7 _ rfl⟩
                              go_wp2_with fail
                              refine (entrepotref08_coord.calls x.nm x.kind x.metric x.scale x.cap x.fleet A6 c6 l A7 c7 x.mx (k : Int) b _ (Kd.C_below HC6.out HST.out.bel) hc6 (Kd.C_below HC7.out HST.out.bel) hc7 HK.out).mono ?_
                              rintro e w2 ⟨rfl, hd⟩
                              replace HST := Aside0.mk (HST.out.below hd)
                              clear hd HK d0 d1 d2 d3 d4 d5 d6 d7
                              go_upto_if 139 with (fail)
                              go_cut [3] from 136 to 144 (fun v3 wc => RS w wc x (.slice A6 l.length c6) (.slice A7 x.mx.length c7) v3 (gs0 ++ Cn.nt b 9 (k : Int)) (7 + 5 * k + 1))
                              case first =>
                                cases b with
                                | true =>
                                  have HS3 : Aside0 (RS w _ x (.slice A6 l.length c6) (.slice A7 x.mx.length c7) _ (gs0 ++ Cn.nt true 9 (k : Int)) (7 + 5 * k + 1)) := ⟨by simpa [Cn.nt] using HST.out.more (7 + 5 * k + 1) (by omega)⟩
                                  go_wp2_with fail
                                  go_meet
                                  case rel => exact HS3.out
                                | false =>
                                  go_wp2_with (at_builtin; refine wpList_note HST.out (by omega) 9 (k : Int) rfl _ _ rfl rfl rfl ?_)
                                  intro v' w3 hs3
                                  have HS3 := Aside0.mk hs3
                                  clear hs3
                                  go_wp2_with fail
                                  go_meet
                                  case rel => exact HS3.out
                              case rest =>
                                replace HST := Aside0.mk hcut
                                clear hcut
                                obtain ⟨gs1, hgs1⟩ : ∃ fs, gs0 ++ Cn.nt b 9 (k : Int) = fs := ⟨_, rfl⟩
                                rw [hgs1] at HST
                                replace hgs1 := Aside0.mk hgs1
                                obtain ⟨b, hb⟩ : ∃ b, Cn.demand x (rd_T71 x.nodes k) k = b := ⟨_, rfl⟩
                                have HB10 := Aside0.mk hb
                                obtain ⟨j, hj⟩ := HRF.out.demand k hkx
                                rw [hb] at hj
                                have HK := Aside0.mk hj
                                clear hj hb
                                obtain ⟨d0, d1, d2, d3, d4, d5, d6, d7⟩ : wc.cell? ⟨w.heap.size, 0, none⟩ = some (Value.string x.nm) ∧ wc.cell? ⟨w.heap.size, 1, none⟩ = some (Value.int .i64 x.kind) ∧ wc.cell? ⟨w.heap.size, 2, none⟩ = some (Value.int .i64 x.metric) ∧ wc.cell? ⟨w.heap.size, 3, none⟩ = some (Value.int .i64 x.scale) ∧ wc.cell? ⟨w.heap.size, 4, none⟩ = some (Value.int .i64 x.cap) ∧ wc.cell? ⟨w.heap.size, 5, none⟩ = some (Value.int .i64 x.fleet) ∧ wc.cell? ⟨w.heap.size, 6, none⟩ = some (Value.slice A6 l.length c6) ∧ wc.cell? ⟨w.heap.size, 7, none⟩ = some (Value.slice A7 x.mx.length c7) := ⟨HST.out.cell 0 _ rfl, HST.out.cell 1 _ rfl, HST.out.cell 2 _ rfl, HST.out.cell 3 _ rfl, HST.out.cell 4 _ rfl, HST.out.cell 5 _ rfl, HST.out.cell 6 _ rfl, HST.out.cell 7 _ rfl⟩
                                go_wp2_with fail
                                refine (entrepotref08_demand.calls j x.nm x.kind x.metric x.scale x.cap x.fleet A6 c6 l A7 c7 x.mx (k : Int) b _ (Kd.C_below HC6.out HST.out.bel) hc6 (Kd.C_below HC7.out HST.out.bel) hc7 HK.out).mono ?_
                                rintro e w2 ⟨rfl, hd⟩
                                replace HST := Aside0.mk (HST.out.below hd)
                                clear hd HK d0 d1 d2 d3 d4 d5 d6 d7
                                go_upto_if 148 with (fail)
                                go_cut [3] from 145 to 153 (fun v3 wc => RS w wc x (.slice A6 l.length c6) (.slice A7 x.mx.length c7) v3 (gs1 ++ Cn.nt b 10 (k : Int)) (7 + 5 * k + 2))
                                case first =>
                                  cases b with
                                  | true =>
                                    have HS3 : Aside0 (RS w _ x (.slice A6 l.length c6) (.slice A7 x.mx.length c7) _ (gs1 ++ Cn.nt true 10 (k : Int)) (7 + 5 * k + 2)) := ⟨by simpa [Cn.nt] using HST.out.more (7 + 5 * k + 2) (by omega)⟩
                                    go_wp2_with fail
                                    go_meet
                                    case rel => exact HS3.out
                                  | false =>
                                    go_wp2_with (at_builtin; refine wpList_note HST.out (by omega) 10 (k : Int) rfl _ _ rfl rfl rfl ?_)
                                    intro v' w3 hs3
                                    have HS3 := Aside0.mk hs3
                                    clear hs3
                                    go_wp2_with fail
                                    go_meet
                                    case rel => exact HS3.out
                                case rest =>
                                  replace HST := Aside0.mk hcut
                                  clear hcut
                                  obtain ⟨gs2, hgs2⟩ : ∃ fs, gs1 ++ Cn.nt b 10 (k : Int) = fs := ⟨_, rfl⟩
                                  rw [hgs2] at HST
                                  replace hgs2 := Aside0.mk hgs2
                                  obtain ⟨b, hb⟩ : ∃ b, Cn.window x (rd_T71 x.nodes k) = b := ⟨_, rfl⟩
                                  have HB11 := Aside0.mk hb
                                  obtain ⟨j, hj⟩ := HRF.out.window k hkx
                                  rw [hb] at hj
                                  have HK := Aside0.mk hj
                                  clear hj hb
                                  obtain ⟨d0, d1, d2, d3, d4, d5, d6, d7⟩ : wc.cell? ⟨w.heap.size, 0, none⟩ = some (Value.string x.nm) ∧ wc.cell? ⟨w.heap.size, 1, none⟩ = some (Value.int .i64 x.kind) ∧ wc.cell? ⟨w.heap.size, 2, none⟩ = some (Value.int .i64 x.metric) ∧ wc.cell? ⟨w.heap.size, 3, none⟩ = some (Value.int .i64 x.scale) ∧ wc.cell? ⟨w.heap.size, 4, none⟩ = some (Value.int .i64 x.cap) ∧ wc.cell? ⟨w.heap.size, 5, none⟩ = some (Value.int .i64 x.fleet) ∧ wc.cell? ⟨w.heap.size, 6, none⟩ = some (Value.slice A6 l.length c6) ∧ wc.cell? ⟨w.heap.size, 7, none⟩ = some (Value.slice A7 x.mx.length c7) := ⟨HST.out.cell 0 _ rfl, HST.out.cell 1 _ rfl, HST.out.cell 2 _ rfl, HST.out.cell 3 _ rfl, HST.out.cell 4 _ rfl, HST.out.cell 5 _ rfl, HST.out.cell 6 _ rfl, HST.out.cell 7 _ rfl⟩
                                  go_wp2_with fail
                                  refine (entrepotref08_window.calls j x.nm x.kind x.metric x.scale x.cap x.fleet A6 c6 l A7 c7 x.mx (k : Int) b _ (Kd.C_below HC6.out HST.out.bel) hc6 (Kd.C_below HC7.out HST.out.bel) hc7 HK.out).mono ?_
                                  rintro e w2 ⟨rfl, hd⟩
                                  replace HST := Aside0.mk (HST.out.below hd)
                                  clear hd HK d0 d1 d2 d3 d4 d5 d6 d7
                                  go_upto_if 157 with (fail)
                                  go_cut [3] from 154 to 162 (fun v3 wc => RS w wc x (.slice A6 l.length c6) (.slice A7 x.mx.length c7) v3 (gs2 ++ Cn.nt b 11 (k : Int)) (7 + 5 * k + 3))
                                  case first =>
                                    cases b with
                                    | true =>
                                      have HS3 : Aside0 (RS w _ x (.slice A6 l.length c6) (.slice A7 x.mx.length c7) _ (gs2 ++ Cn.nt true 11 (k : Int)) (7 + 5 * k + 3)) := ⟨by simpa [Cn.nt] using HST.out.more (7 + 5 * k + 3) (by omega)⟩
                                      go_wp2_with fail
                                      go_meet
                                      case rel => exact HS3.out
                                    | false =>
                                      go_wp2_with (at_builtin; refine wpList_note HST.out (by omega) 11 (k : Int) rfl _ _ rfl rfl rfl ?_)
                                      intro v' w3 hs3
                                      have HS3 := Aside0.mk hs3
                                      clear hs3
                                      go_wp2_with fail
                                      go_meet
                                      case rel => exact HS3.out
                                  case rest =>
                                    replace HST := Aside0.mk hcut
                                    clear hcut
                                    obtain ⟨gs3, hgs3⟩ : ∃ fs, gs2 ++ Cn.nt b 11 (k : Int) = fs := ⟨_, rfl⟩
                                    rw [hgs3] at HST
                                    replace hgs3 := Aside0.mk hgs3
                                    obtain ⟨b, hb⟩ : ∃ b, Cn.service x (rd_T71 x.nodes k) = b := ⟨_, rfl⟩
                                    have HB12 := Aside0.mk hb
                                    have hj := HRF.out.service k hkx
                                    rw [hb] at hj
                                    have HK := Aside0.mk hj
                                    clear hj hb
                                    obtain ⟨d0, d1, d2, d3, d4, d5, d6, d7⟩ : wc.cell? ⟨w.heap.size, 0, none⟩ = some (Value.string x.nm) ∧ wc.cell? ⟨w.heap.size, 1, none⟩ = some (Value.int .i64 x.kind) ∧ wc.cell? ⟨w.heap.size, 2, none⟩ = some (Value.int .i64 x.metric) ∧ wc.cell? ⟨w.heap.size, 3, none⟩ = some (Value.int .i64 x.scale) ∧ wc.cell? ⟨w.heap.size, 4, none⟩ = some (Value.int .i64 x.cap) ∧ wc.cell? ⟨w.heap.size, 5, none⟩ = some (Value.int .i64 x.fleet) ∧ wc.cell? ⟨w.heap.size, 6, none⟩ = some (Value.slice A6 l.length c6) ∧ wc.cell? ⟨w.heap.size, 7, none⟩ = some (Value.slice A7 x.mx.length c7) := ⟨HST.out.cell 0 _ rfl, HST.out.cell 1 _ rfl, HST.out.cell 2 _ rfl, HST.out.cell 3 _ rfl, HST.out.cell 4 _ rfl, HST.out.cell 5 _ rfl, HST.out.cell 6 _ rfl, HST.out.cell 7 _ rfl⟩
                                    go_wp2_with fail
                                    refine (entrepotref08_service.calls x.nm x.kind x.metric x.scale x.cap x.fleet A6 c6 l A7 c7 x.mx (k : Int) b _ (Kd.C_below HC6.out HST.out.bel) hc6 (Kd.C_below HC7.out HST.out.bel) hc7 HK.out).mono ?_
                                    rintro e w2 ⟨rfl, hd⟩
                                    replace HST := Aside0.mk (HST.out.below hd)
                                    clear hd HK d0 d1 d2 d3 d4 d5 d6 d7
                                    go_upto_if 166 with (fail)
                                    go_cut [3] from 163 to 171 (fun v3 wc => RS w wc x (.slice A6 l.length c6) (.slice A7 x.mx.length c7) v3 (gs3 ++ Cn.nt b 12 (k : Int)) (7 + 5 * k + 4))
                                    case first =>
                                      cases b with
                                      | true =>
                                        have HS3 : Aside0 (RS w _ x (.slice A6 l.length c6) (.slice A7 x.mx.length c7) _ (gs3 ++ Cn.nt true 12 (k : Int)) (7 + 5 * k + 4)) := ⟨by simpa [Cn.nt] using HST.out.more (7 + 5 * k + 4) (by omega)⟩
                                        go_wp2_with fail
                                        go_meet
                                        case rel => exact HS3.out
                                      | false =>
                                        go_wp2_with (at_builtin; refine wpList_note HST.out (by omega) 12 (k : Int) rfl _ _ rfl rfl rfl ?_)
                                        intro v' w3 hs3
                                        have HS3 := Aside0.mk hs3
                                        clear hs3
                                        go_wp2_with fail
                                        go_meet
                                        case rel => exact HS3.out
                                    case rest =>
                                      replace HST := Aside0.mk hcut
                                      clear hcut
                                      obtain ⟨gs4, hgs4⟩ : ∃ fs, gs3 ++ Cn.nt b 12 (k : Int) = fs := ⟨_, rfl⟩
                                      rw [hgs4] at HST
                                      replace hgs4 := Aside0.mk hgs4
                                      obtain ⟨b, hb⟩ : ∃ b, Cn.mate x (rd_T71 x.nodes k) k = b := ⟨_, rfl⟩
                                      have HB13 := Aside0.mk hb
                                      obtain ⟨j, hj⟩ := HRF.out.mate k hkx
                                      rw [hb] at hj
                                      have HK := Aside0.mk hj
                                      clear hj hb
                                      obtain ⟨d0, d1, d2, d3, d4, d5, d6, d7⟩ : wc.cell? ⟨w.heap.size, 0, none⟩ = some (Value.string x.nm) ∧ wc.cell? ⟨w.heap.size, 1, none⟩ = some (Value.int .i64 x.kind) ∧ wc.cell? ⟨w.heap.size, 2, none⟩ = some (Value.int .i64 x.metric) ∧ wc.cell? ⟨w.heap.size, 3, none⟩ = some (Value.int .i64 x.scale) ∧ wc.cell? ⟨w.heap.size, 4, none⟩ = some (Value.int .i64 x.cap) ∧ wc.cell? ⟨w.heap.size, 5, none⟩ = some (Value.int .i64 x.fleet) ∧ wc.cell? ⟨w.heap.size, 6, none⟩ = some (Value.slice A6 l.length c6) ∧ wc.cell? ⟨w.heap.size, 7, none⟩ = some (Value.slice A7 x.mx.length c7) := ⟨HST.out.cell 0 _ rfl, HST.out.cell 1 _ rfl, HST.out.cell 2 _ rfl, HST.out.cell 3 _ rfl, HST.out.cell 4 _ rfl, HST.out.cell 5 _ rfl, HST.out.cell 6 _ rfl, HST.out.cell 7 _ rfl⟩
                                      go_wp2_with fail
                                      refine (entrepotref08_mate.calls j x.nm x.kind x.metric x.scale x.cap x.fleet A6 c6 l A7 c7 x.mx (k : Int) b _ (Kd.C_below HC6.out HST.out.bel) hc6 (Kd.C_below HC7.out HST.out.bel) hc7 HK.out).mono ?_
                                      rintro e w2 ⟨rfl, hd⟩
                                      replace HST := Aside0.mk (HST.out.below hd)
                                      clear hd HK d0 d1 d2 d3 d4 d5 d6 d7
                                      go_upto_if 175 with (fail)
                                      cases b with
                                      | true =>
                                        have HG : Aside0 (RS w w2 x (.slice A6 l.length c6) (.slice A7 x.mx.length c7) u3 (gs4 ++ Cn.nt true 13 (k : Int)) (7 + 5 * k + 5)) := ⟨by simpa [Cn.nt] using HST.out.more (7 + 5 * k + 5) (by omega)⟩
                                        have HE : Aside0 (RS w w2 x (.slice A6 l.length c6) (.slice A7 x.mx.length c7) u3 (fs7 ++ Cn.nodesF x (k + 1)) (7 + 5 * (k + 1))) := ⟨by
                                          rw [← Cn.step_of x k HB9.out HB10.out HB11.out HB12.out HB13.out hgs0.out hgs1.out hgs2.out hgs3.out hgs4.out]
                                          exact HG.out⟩
                                        clear HG HST HB9 HB10 HB11 HB12 HB13 hgs0 hgs1 hgs2 hgs3 hgs4
                                        go_wp2_with fail
                                        go_roundw
                                        case rel => exact ⟨k + 1, by omega, by go_num, HE.out⟩
                                        case measure => simp [intOf]; omega
                                      | false =>
                                        go_wp2_with (at_builtin; refine wpList_note HST.out (by omega) 13 (k : Int) rfl _ _ rfl rfl rfl ?_)
                                        intro v' w3 hs3
                                        have HS3 := Aside0.mk hs3
                                        clear hs3
                                        have HG : Aside0 (RS w w3 x (.slice A6 l.length c6) (.slice A7 x.mx.length c7) v' (gs4 ++ Cn.nt false 13 (k : Int)) (7 + 5 * k + 5)) := ⟨by exact HS3.out⟩
                                        have HE : Aside0 (RS w w3 x (.slice A6 l.length c6) (.slice A7 x.mx.length c7) v' (fs7 ++ Cn.nodesF x (k + 1)) (7 + 5 * (k + 1))) := ⟨by
                                          rw [← Cn.step_of x k HB9.out HB10.out HB11.out HB12.out HB13.out hgs0.out hgs1.out hgs2.out hgs3.out hgs4.out]
                                          exact HG.out⟩
                                        clear HG HST HB9 HB10 HB11 HB12 HB13 hgs0 hgs1 hgs2 hgs3 hgs4
                                        go_wp2_with fail
                                        go_roundw
                                        case rel => exact ⟨k + 1, by omega, by go_num, HE.out⟩
                                        case measure => simp [intOf]; omega
                            · have hke : k = x.nodes.length := by have := hll.out; omega
                              have hdk : ¬ ((k : Int) < (l.length : Int)) := by omega
                              have hO := HST.out
                              rw [hke, ← hFe.out] at hO
                              have HO := Aside0.mk hO
                              clear HST hO hke
                              go_wp2_with fail
                              go_ret
                              exact ⟨_, rfl, HO.out.2.1, HO.out.bel⟩
end Go.Proofs.YtofklpphalalhaaGreatDoor
