/- Texts of this claim, joined: GivenG, GivenH, Shelf. Each as it was, cut to what the claim uses. Conditions: each theorem's own. -/
import Derived.Test.YtofklpphalalhaaGreatDoorUhJ3
import Derived.Test.YtofklpphalalhaaGreatDoorUhJ4
import Derived.Test.YtofklpphalalhaaGreatDoorUhPAllx9
import Derived.Deep.DeepCutAuto
import Derived.Shelf.SlGeneric
import Derived.Shelf.SlicesE.Clone
import Derived.Shelf.SlicesG.Cmp
import Derived.Shelf.SlSortCmp.NoneTotal
import Derived.Ground.NamesProg
import Derived.Ground.SlgnProg
import Derived.Ground.SlsfProg
import Derived.Ground.SlgcProg
import Derived.Test.YtofklpphalalhaaGreatDoorProg
section
namespace Go.Proofs.YtofklpphalalhaaGreatDoor
set_option linter.unusedVariables false
set_option linter.unusedSimpArgs false
open Go.RowKit Go.Proofs.YtofklpphalalhaaGreatDoor.PAll Go.Proofs.YtofklpphalalhaaGreatDoorW.PrintWords Go.Proofs.YtofklpphalalhaaGreatDoorW.PrintLast Go.Proofs.YtofklpphalalhaaGreatDoorW.PrintMore
namespace Cn
def known (m : Int) : Bool := btw m 0 6
def name (x : In) : Bool := Wd.okName Wd.nam x.nm.data.toList
def nt (b : Bool) (f n : Int) : List S169 := if b = true then [] else [⟨f, n⟩]
def scal (x : In) : Bool := btw x.scale 0 6 && (x.metric != 0 || x.scale == 0)
def heads (x : In) : List S169 := nt (name x) 1 0 ++ nt (btw x.kind 1 4) 2 0 ++ nt (known x.metric) 3 0 ++ nt (scal x) 4 0 ++ nt (limit x x.cap 1 100000000) 5 0 ++ nt (limit x x.fleet 0 400) 6 0
def nodeF (x : In) (i : Nat) : List S169 := nt (coord x (rd_T71 x.nodes i)) 9 i ++ nt (demand x (rd_T71 x.nodes i) i) 10 i ++ nt (window x (rd_T71 x.nodes i)) 11 i ++ nt (service x (rd_T71 x.nodes i)) 12 i ++ nt (mate x (rd_T71 x.nodes i) i) 13 i
def nodesF (x : In) (k : Nat) : List S169 := (List.range k).flatMap (nodeF x)
/-- The faults of an instance. -/
def check (x : In) : List S169 := if btw x.nodes.length 1 400 = true then heads x ++ nt (matrix x) 8 0 ++ nodesF x x.nodes.length else heads x ++ [⟨7, 0⟩]
theorem nodesF_succ (x : In) (k : Nat) : nodesF x (k + 1) = nodesF x k ++ nodeF x k := by
 unfold nodesF; rw [List.range_succ, List.flatMap_append]; simp
theorem nt_len (b : Bool) (f n : Int) : (nt b f n).length ≤ 1 := by unfold nt; split <;> simp
end Cn
theorem known_walk (m : Int) (w : World) : Calls Tryz.prog 158 #[.int .i64 m] w fun e w' => e = .returned (.bool (Cn.known m)) ∧ w = w' := by
 by_cases h1 : 0 ≤ m
 ·have hb : Cn.known m = decide (m ≤ 6) := by unfold Cn.known Cn.btw; simp [h1]
  rw [hb]; clear hb
  go_enter Tryz.func158, Tryz.ntmps158
  go_wp2
  go_ret
  exact ⟨rfl, rfl⟩
 ·have hb : Cn.known m = false := decide_eq_false fun h => h1 h.1
  rw [hb]; clear hb
  go_enter Tryz.func158, Tryz.ntmps158
  go_wp2
  go_ret
  exact ⟨rfl, rfl⟩
theorem name_in (x : Cn.In) (hs : x.nm.size ≤ 140737488351232) (w : World) : Calls Tryz.prog 157 #[.string x.nm] w fun e w' => e = .returned (.bool (Cn.name x)) ∧ Below w.heap.size w w' := name_walk x.nm hs w
/-- The box of the instance. -/
abbrev inB (x : Cn.In) (v6 v7 : Value) : Obj := .cells #[.string x.nm, .int .i64 x.kind, .int .i64 x.metric, .int .i64 x.scale, .int .i64 x.cap, .int .i64 x.fleet, v6, v7] 25
abbrev inV (x : Cn.In) (v6 v7 : Value) : Value := .agg #[.string x.nm, .int .i64 x.kind, .int .i64 x.metric, .int .i64 x.scale, .int .i64 x.cap, .int .i64 x.fleet, v6, v7]
/-- How things stand in Check: the box, the looker, the faults so far (at most m). -/
def ST (w0 W : World) (x : Cn.In) (v6 v7 : Value) (fs : List S169) (m : Nat) : Prop :=
 W.heap[w0.heap.size]? = some (inB x v6 v7) ∧ CK W w0.heap.size (w0.heap.size + 2) (w0.heap.size + 1) x v6 v7 fs ∧ Below w0.heap.size w0 W ∧ fs.length ≤ m
section
variable {w0 W W' : World} {x : Cn.In} {v6 v7 : Value} {fs : List S169} {m : Nat}
theorem ST.ck (h : ST w0 W x v6 v7 fs m) : CK W w0.heap.size (w0.heap.size + 2) (w0.heap.size + 1) x v6 v7 fs := h.2.1
theorem ST.bel (h : ST w0 W x v6 v7 fs m) : Below w0.heap.size w0 W := h.2.2.1
theorem ST.cell (h : ST w0 W x v6 v7 fs m) (j : Nat) (v : Value) (hj : (#[Value.string x.nm, .int .i64 x.kind, .int .i64 x.metric, .int .i64 x.scale, .int .i64 x.cap, .int .i64 x.fleet, v6, v7])[j]? = some v) : W.cell? ⟨w0.heap.size, j, none⟩ = some v := by
 rw [Lib.cell_of_heap h.1]; exact hj
theorem ST.b0 (h : ST w0 W x v6 v7 fs m) : W.cell? ⟨w0.heap.size, 0, none⟩ = some (.string x.nm) := h.cell 0 _ rfl
theorem ST.b1 (h : ST w0 W x v6 v7 fs m) : W.cell? ⟨w0.heap.size, 1, none⟩ = some (.int .i64 x.kind) := h.cell 1 _ rfl
theorem ST.b2 (h : ST w0 W x v6 v7 fs m) : W.cell? ⟨w0.heap.size, 2, none⟩ = some (.int .i64 x.metric) := h.cell 2 _ rfl
theorem ST.b3 (h : ST w0 W x v6 v7 fs m) : W.cell? ⟨w0.heap.size, 3, none⟩ = some (.int .i64 x.scale) := h.cell 3 _ rfl
theorem ST.b4 (h : ST w0 W x v6 v7 fs m) : W.cell? ⟨w0.heap.size, 4, none⟩ = some (.int .i64 x.cap) := h.cell 4 _ rfl
theorem ST.b5 (h : ST w0 W x v6 v7 fs m) : W.cell? ⟨w0.heap.size, 5, none⟩ = some (.int .i64 x.fleet) := h.cell 5 _ rfl
theorem ST.b6 (h : ST w0 W x v6 v7 fs m) : W.cell? ⟨w0.heap.size, 6, none⟩ = some v6 := h.cell 6 _ rfl
theorem ST.cp (h : ST w0 W x v6 v7 fs m) : W.cell? ⟨w0.heap.size + 2, 0, none⟩ = some (.pointer (some ⟨w0.heap.size + 1, 0, none⟩)) := h.ck.cp
theorem ST.lk (h : ST w0 W x v6 v7 fs m) : ∃ v8, LK W (w0.heap.size + 1) x v6 v7 v8 := by
 obtain ⟨_, _, _, v8, h, _⟩ := h.ck; exact ⟨v8, h⟩
theorem ST.below (h : ST w0 W x v6 v7 fs m) (hb : Below W.heap.size W W') : ST w0 W' x v6 v7 fs m :=
 ⟨(hb.block _ (Array.getElem?_eq_some_iff.1 h.1).1).trans h.1, h.ck.below hb, h.bel.trans (hb.mono h.bel.size), h.2.2.2⟩
theorem ST.to {fs' : List S169} (h : ST w0 W x v6 v7 fs m) (hc : CK W' w0.heap.size (w0.heap.size + 2) (w0.heap.size + 1) x v6 v7 fs') (hb : Below w0.heap.size W W') (hk : NK (w0.heap.size + 1) W W') (hl : fs'.length ≤ fs.length + 1) : ST w0 W' x v6 v7 fs' (m + 1) :=
 ⟨hk _ _ h.1 (by omega) (fun c f e => by simp at e), hc, h.bel.trans hb, by have := h.2.2.2; omega⟩
/-- What the closure leaves. -/
theorem ST.note (h : ST w0 W x v6 v7 fs m) (hm : m ≤ 1000000) (b : Bool) (f n : Int) : Calls Tryz.prog 156 #[.bool b, .int .i64 f, .int .i64 n, .pointer (some ⟨w0.heap.size + 2, 0, none⟩)] W fun e w' => e = .returned (.tuple #[]) ∧ ST w0 w' x v6 v7 (fs ++ Cn.nt b f n) (m + 1) ∧ NK (w0.heap.size + 1) W w' := by
 refine (note_walk h.ck (by have := h.2.2.2; omega) b f n).mono ?_
 rintro e w' ⟨rfl, h1, h2, h3⟩
 exact ⟨rfl, h.to (fs' := fs ++ Cn.nt b f n) h1 h2 h3 (by rw [List.length_append]; have := Cn.nt_len b f n; omega), h3⟩
end
theorem ob_cells {W : World} {g kb : Nat} {d : S71} {i : Int} (h : W.heap[g]? = some (oneB kb d i)) : W.cell? ⟨g, 0, none⟩ = some (.pointer (some ⟨kb, 0, none⟩)) ∧ W.cell? ⟨g, 1, none⟩ = some (.int .i64 d.f0) ∧ W.cell? ⟨g, 2, none⟩ = some (.int .i64 d.f1) ∧ W.cell? ⟨g, 3, none⟩ = some (.int .i64 d.f2) ∧ W.cell? ⟨g, 4, none⟩ = some (.int .i64 d.f3) ∧ W.cell? ⟨g, 5, none⟩ = some (.int .i64 d.f4) ∧ W.cell? ⟨g, 6, none⟩ = some (.int .i64 d.f5) ∧ W.cell? ⟨g, 7, none⟩ = some (.int .i64 d.f6) ∧ W.cell? ⟨g, 8, none⟩ = some (.int .i64 i) := by
 refine ⟨?_, ?_, ?_, ?_, ?_, ?_, ?_, ?_, ?_⟩ <;> (rw [Lib.cell_of_heap h]; rfl)
theorem ST.start (w : World) (x : Cn.In) (v6 v7 : Value) : ST w (((w.alloc (inB x v6 v7)).alloc (.cells #[.string x.nm, .int .i64 x.kind, .int .i64 x.metric, .int .i64 x.scale, .int .i64 x.cap, .int .i64 x.fleet, v6, v7, .slice none 0 0] 206)).alloc (.cells #[.pointer (some ⟨w.heap.size + 1, 0, none⟩)] 204)) x v6 v7 [] 0 := by
 have s1 : (w.alloc (inB x v6 v7)).heap.size = w.heap.size + 1 := by simp
 have s2 : ((w.alloc (inB x v6 v7)).alloc (.cells #[.string x.nm, .int .i64 x.kind, .int .i64 x.metric, .int .i64 x.scale, .int .i64 x.cap, .int .i64 x.fleet, v6, v7, .slice none 0 0] 206)).heap.size = w.heap.size + 2 := by simp
 refine ⟨?_, ⟨?_, by omega, by omega, .slice none 0 0, ?_, ?_⟩, ?_, Nat.le_refl _⟩
 ·rw [Below.heap_alloc _ _ _ (by simp; omega), Below.heap_alloc _ _ _ (by simp)]
  exact Array.getElem?_push_size
 ·rw [← s2]; exact Array.getElem?_push_size
 ·unfold LK
  rw [Below.heap_alloc _ _ _ (by simp), ← s1]
  exact Array.getElem?_push_size
 ·exact World.ownsRow_nil _ _ _ _
 ·exact (((Below.refl _ _).alloc (Nat.le_refl _) _).alloc (by simp) _).alloc (by simp; omega) _
set_option maxRecDepth 100000 in
set_option maxHeartbeats 16000000 in
theorem check_walk (x : Cn.In) (A6 A7 : Option Addr) (c6 c7 : Nat) (w : World) (hs : x.nm.size ≤ 140737488351232) (hC6 : Kd.C k71 w A6 x.nodes.length x.nodes) (hC7 : Kd.C (Kd.int .i64) w A7 x.mx.length x.mx) :
    Calls Tryz.prog 113 #[inV x (.slice A6 x.nodes.length c6) (.slice A7 x.mx.length c7)] w fun e w' => ∃ v, e = .returned v ∧ w'.ownsRow w.heap.size 169 2 v (Cn.check x).length (flatF (Cn.check x)) ∧ Below w.heap.size w w' := by
  have HST := Aside0.mk (ST.start w x (.slice A6 x.nodes.length c6) (.slice A7 x.mx.length c7))
  have HC6 := Aside0.mk hC6
  have HC7 := Aside0.mk hC7
  have hn9 := (C_len hC6).2
  have hmf : ∀ (fn : Fn) (first cap : Array Value) (w : World), (Instr.makeFunc fn first cap).run Tryz.prog w = .ok (.func fn first cap) w := fun _ _ _ _ => rfl
  have Hname := Aside0.mk (name_in x hs)
  have Hbtw := Aside0.mk btw_walk
  have Hknown := Aside0.mk known_walk
  obtain ⟨F, hF⟩ : ∃ F, Cn.check x = F := ⟨_, rfl⟩
  rw [hF]
  replace hF := Aside0.mk hF
  clear hC6 hC7 hs
  go_enter Tryz.func113, Tryz.ntmps113
  go_wp2_with fail
  refine (Hname.out _).mono ?_
  rintro e W1 ⟨rfl, b1⟩
  replace HST := Aside0.mk (HST.out.below b1)
  clear b1
  have hnt := Aside0.mk (HST.out.note (by omega) (Cn.name x) 1 0)
  go_wp2_with fail
  refine hnt.out.mono ?_
  rintro e W2 ⟨rfl, hs, hk⟩
  replace HST := Aside0.mk hs
  clear hs hk hnt
  have qb1 := HST.out.b1
  go_wp2_with fail
  refine (Hbtw.out _ _ _ _).mono ?_
  rintro e w' ⟨rfl, rfl⟩
  clear qb1
  have hnt := Aside0.mk (HST.out.note (by omega) (Cn.btw x.kind 1 4) 2 0)
  go_wp2_with fail
  refine hnt.out.mono ?_
  rintro e W3 ⟨rfl, hs, hk⟩
  replace HST := Aside0.mk hs
  clear hs hk hnt
  have qb2 := HST.out.b2
  go_wp2_with fail
  refine (Hknown.out _ _).mono ?_
  rintro e w' ⟨rfl, rfl⟩
  clear qb2
  have hnt := Aside0.mk (HST.out.note (by omega) (Cn.known x.metric) 3 0)
  go_wp2_with fail
  refine hnt.out.mono ?_
  rintro e W4 ⟨rfl, hs, hk⟩
  replace HST := Aside0.mk hs
  clear hs hk hnt
  go_upto_region 6 with (fail)
  obtain ⟨fs3, hfs3⟩ : ∃ fs, [] ++ Cn.nt (Cn.name x) 1 0 ++ Cn.nt (Cn.btw x.kind 1 4) 2 0 ++ Cn.nt (Cn.known x.metric) 3 0 = fs := ⟨_, rfl⟩
  rw [hfs3] at HST
  go_cut [] (fun wc => ST w wc x (.slice A6 x.nodes.length c6) (.slice A7 x.mx.length c7) (fs3 ++ Cn.nt (Cn.scal x) 4 0) 4)
  case first =>
    have qb2 := HST.out.b2
    have qb3 := HST.out.b3
    obtain ⟨b1, hb1⟩ : ∃ b, Cn.btw x.scale 0 6 = b := ⟨_, rfl⟩
    obtain ⟨mb, hmb⟩ : ∃ b, (x.metric != 0) = b := ⟨_, rfl⟩
    obtain ⟨sb, hsb⟩ : ∃ b, (x.scale == 0) = b := ⟨_, rfl⟩
    have HSC : Aside0 (Cn.scal x = (b1 && (mb || sb))) := ⟨by unfold Cn.scal; rw [hb1, hmb, hsb]⟩
    have hb := btw_walk x.scale 0 6 W4
    rw [hb1] at hb
    replace hb := Aside0.mk hb
    clear hb1
    go_wp2_with fail
    refine hb.out.mono ?_
    rintro e w' ⟨rfl, rfl⟩
    cases b1 with
    | false =>
      have hnt := Aside0.mk (HST.out.note (by omega) false 4 0)
      clear hmb hsb
      go_wp2_with fail
      refine hnt.out.mono ?_
      rintro e W5 ⟨rfl, hs, hk⟩
      rw [show (false : Bool) = Cn.scal x from by rw [HSC.out]; rfl] at hs
      have HS := Aside0.mk hs
      clear hs hk hnt qb2 qb3
      go_wp2_with fail
      go_meet
      case rel => exact HS.out
    | true =>
      cases mb with
      | true =>
        have hnt := Aside0.mk (HST.out.note (by omega) true 4 0)
        clear hsb
        go_wp2_with fail
        refine hnt.out.mono ?_
        rintro e W5 ⟨rfl, hs, hk⟩
        rw [show (true : Bool) = Cn.scal x from by rw [HSC.out]; rfl] at hs
        have HS := Aside0.mk hs
        clear hs hk hnt qb2 qb3 hmb
        go_wp2_with fail
        go_meet
        case rel => exact HS.out
      | false =>
        have hnt := Aside0.mk (HST.out.note (by omega) sb 4 0)
        go_wp2_with fail
        refine hnt.out.mono ?_
        rintro e W5 ⟨rfl, hs, hk⟩
        rw [show sb = Cn.scal x from by rw [HSC.out]; cases sb <;> rfl] at hs
        have HS := Aside0.mk hs
        clear hs hk hnt qb2 qb3 hmb hsb
        go_wp2_with fail
        go_meet
        case rel => exact HS.out
  case rest =>
    replace HST := Aside0.mk hcut
    clear hcut
    have q1 := HST.out.cp
    have q2 := HST.out.b4
    obtain ⟨v8, hlk⟩ := HST.out.lk
    have hl := Aside0.mk (limit_walk hlk x.cap 1 100000000)
    clear hlk
    go_wp2_with fail
    refine hl.out.mono ?_
    rintro e w' ⟨rfl, rfl⟩
    clear hl q1 q2
    have hnt := Aside0.mk (HST.out.note (by omega) (Cn.limit x x.cap 1 100000000) 5 0)
    go_wp2_with fail
    refine hnt.out.mono ?_
    rintro e W6 ⟨rfl, hs, hk⟩
    replace HST := Aside0.mk hs
    clear hs hk hnt
    have q1 := HST.out.cp
    have q2 := HST.out.b5
    obtain ⟨v8, hlk⟩ := HST.out.lk
    have hl := Aside0.mk (limit_walk hlk x.fleet 0 400)
    clear hlk
    go_wp2_with fail
    refine hl.out.mono ?_
    rintro e w' ⟨rfl, rfl⟩
    clear hl q1 q2
    have hnt := Aside0.mk (HST.out.note (by omega) (Cn.limit x x.fleet 0 400) 6 0)
    go_wp2_with fail
    refine hnt.out.mono ?_
    rintro e W7 ⟨rfl, hs, hk⟩
    replace HST := Aside0.mk hs
    clear hs hk hnt
    obtain ⟨G, hG⟩ : ∃ G, fs3 ++ Cn.nt (Cn.scal x) 4 0 ++ Cn.nt (Cn.limit x x.cap 1 100000000) 5 0 ++ Cn.nt (Cn.limit x x.fleet 0 400) 6 0 = G := ⟨_, rfl⟩
    rw [hG] at HST
    have HG : Aside0 (Cn.heads x = G) := ⟨by rw [← hG, ← hfs3]; unfold Cn.heads; simp only [List.nil_append, List.append_assoc]⟩
    clear hG hfs3
    have q1 := HST.out.b6
    obtain ⟨bn, hbn⟩ : ∃ b, Cn.btw x.nodes.length 1 400 = b := ⟨_, rfl⟩
    have hb := btw_walk x.nodes.length 1 400 W7
    rw [hbn] at hb
    replace hb := Aside0.mk hb
    replace hbn := Aside0.mk hbn
    go_wp2_with fail
    refine hb.out.mono ?_
    rintro e w' ⟨rfl, rfl⟩
    clear q1 hb
    cases bn with
    | false =>
      have hnt := Aside0.mk (HST.out.note (by omega) false 7 0)
      go_wp2_with fail
      refine hnt.out.mono ?_
      rintro e W8 ⟨rfl, hs, hk⟩
      replace HST := Aside0.mk hs
      clear hs hk hnt
      obtain ⟨_, _, _, v8, hlk, hown⟩ := HST.out.ck
      have q1 := HST.out.cp
      have q2 := hlk.c8
      have HE : Aside0 (F = G ++ Cn.nt false 7 0) := ⟨by rw [← hF.out, ← HG.out]; unfold Cn.check; rw [hbn.out]; rfl⟩
      have HO := Aside0.mk hown
      clear hlk hown
      go_wp2_with fail
      go_ret
      exact ⟨_, rfl, by rw [HE.out]; exact HO.out, HST.out.bel⟩
    | true =>
      have HN4 : x.nodes.length ≤ 400 := by have := of_decide_eq_true hbn.out; omega
      have q1 := HST.out.cp
      obtain ⟨v8, hlk⟩ := HST.out.lk
      have hl := Aside0.mk (matrix_walk hlk HN4 (Kd.C_below HC7.out HST.out.bel))
      clear hlk
      go_wp2_with fail
      refine hl.out.mono ?_
      rintro e w' ⟨rfl, rfl⟩
      clear hl q1
      have hnt := Aside0.mk (HST.out.note (by omega) (Cn.matrix x) 8 0)
      go_wp2_with fail
      refine hnt.out.mono ?_
      rintro e W8 ⟨rfl, hs, hk⟩
      replace HST := Aside0.mk hs
      clear hs hk hnt
      have HST0 : Aside0 (ST w W8 x (.slice A6 x.nodes.length c6) (.slice A7 x.mx.length c7) (G ++ Cn.nt (Cn.matrix x) 8 0 ++ Cn.nodesF x 0) (7 + 5 * 0)) := ⟨by
        have := HST.out
        unfold Cn.nodesF
        simpa using this⟩
      have q1 := HST.out.b6
      clear HST
      go_wp2_with fail
      clear q1
      go_loopw [72] (fun i wr => ∃ k : Nat, k ≤ x.nodes.length ∧ i = .int .i64 k ∧ ST w wr x (.slice A6 x.nodes.length c6) (.slice A7 x.mx.length c7) (G ++ Cn.nt (Cn.matrix x) 8 0 ++ Cn.nodesF x k) (7 + 5 * k)) (fun i _ => x.nodes.length - (intOf i).toNat)
      case atStart => exact ⟨0, Nat.zero_le _, rfl, HST0.out⟩
      case round =>
        clear HST0
        obtain ⟨k, hk, rfl, hst⟩ := hrel
        have HST := Aside0.mk hst
        clear hst
        by_cases hlt : k < x.nodes.length
        · obtain ⟨ad, e, x0, x1, x2, x3, x4, x5, x6⟩ := at_T71 (Kd.C_below HC6.out HST.out.bel) (k : Int) (by omega) (by omega)
          subst e
          simp only [Int.toNat_natCast] at x0 x1 x2 x3 x4 x5 x6
          obtain ⟨d, hd⟩ : ∃ d, rd_T71 x.nodes k = d := ⟨_, rfl⟩
          rw [hd] at x0 x1 x2 x3 x4 x5 x6
          replace hd := Aside0.mk hd
          have q1 : ∀ o, (wr.alloc o).cell? ⟨w.heap.size + 2, 0, none⟩ = some (.pointer (some ⟨w.heap.size + 1, 0, none⟩)) := fun o => cell_alloc HST.out.cp
          have q1' : ∀ o, (wr.alloc o).cell? ⟨w.heap.size + 1 + 1, 0, none⟩ = some (.pointer (some ⟨w.heap.size + 1, 0, none⟩)) := fun o => cell_alloc HST.out.cp
          have hkk : k ≤ 400 := by omega
          obtain ⟨W0, hW0⟩ : ∃ W, (wr.alloc (.cells #[.int .i64 d.f0, .int .i64 d.f1, .int .i64 d.f2, .int .i64 d.f3, .int .i64 d.f4, .int .i64 d.f5, .int .i64 d.f6] 71)).alloc (oneB (w.heap.size + 1) d k) = W := ⟨_, rfl⟩
          have HB0 : Aside0 (W0.heap[wr.heap.size + 1]? = some (oneB (w.heap.size + 1) d k)) := ⟨by
            rw [← hW0, ← show (wr.alloc (.cells #[.int .i64 d.f0, .int .i64 d.f1, .int .i64 d.f2, .int .i64 d.f3, .int .i64 d.f4, .int .i64 d.f5, .int .i64 d.f6] 71)).heap.size = wr.heap.size + 1 from by simp]
            exact Array.getElem?_push_size⟩
          have HS0 := Aside0.mk (HST.out.below (show Below wr.heap.size wr W0 from hW0 ▸ below_two _ _ _))
          have HW0 := Aside0.mk hW0
          have hgk : Aside0 (wr.heap.size + 1 ≠ w.heap.size + 1) := ⟨by
            have h1 := HST.out.ck.base_le
            obtain ⟨_, _, _, v8, hlk, _⟩ := HST.out.ck
            have := hlk.lt
            omega⟩
          clear hW0
          unfold oneB at HW0
          obtain ⟨v8, hlk⟩ := HS0.out.lk
          have hl := Aside0.mk (coord_walk hlk d k)
          clear hlk
          go_wp2_with fail
          rw [HW0.out]
          replace HST := HS0
          have HNK := Aside0.mk (NK.refl (w.heap.size + 1) W0)
          clear HW0 HS0 q1 q1' x0 x1 x2 x3 x4 x5 x6
          refine hl.out.mono ?_
          rintro e V1 ⟨rfl, b1⟩
          replace HST := Aside0.mk (HST.out.below b1)
          replace HNK := Aside0.mk (HNK.out.trans (NK.of_below b1))
          clear b1 hl
          have hnt := Aside0.mk (HST.out.note (by omega) (Cn.coord x d) 9 k)
          go_wp2_with fail
          refine hnt.out.mono ?_
          rintro e U1 ⟨rfl, hs, hk⟩
          replace HST := Aside0.mk hs
          replace HNK := Aside0.mk (HNK.out.trans hk)
          clear hs hk hnt
          obtain ⟨r0, r1, r2, r3, r4, r5, r6, r7, r8⟩ := ob_cells (HNK.out _ _ HB0.out hgk.out (fun c f e => by simp at e))
          obtain ⟨v8, hlk⟩ := HST.out.lk
          have hl := Aside0.mk (demand_walk hlk d k)
          clear hlk
          go_wp2_with fail
          clear r0 r1 r2 r3 r4 r5 r6 r7 r8
          refine hl.out.mono ?_
          rintro e V2 ⟨rfl, b1⟩
          replace HST := Aside0.mk (HST.out.below b1)
          replace HNK := Aside0.mk (HNK.out.trans (NK.of_below b1))
          clear b1 hl
          have hnt := Aside0.mk (HST.out.note (by omega) (Cn.demand x d k) 10 k)
          go_wp2_with fail
          refine hnt.out.mono ?_
          rintro e U2 ⟨rfl, hs, hk⟩
          replace HST := Aside0.mk hs
          replace HNK := Aside0.mk (HNK.out.trans hk)
          clear hs hk hnt
          obtain ⟨r0, r1, r2, r3, r4, r5, r6, r7, r8⟩ := ob_cells (HNK.out _ _ HB0.out hgk.out (fun c f e => by simp at e))
          obtain ⟨v8, hlk⟩ := HST.out.lk
          have hl := Aside0.mk (window_walk hlk d k)
          clear hlk
          go_wp2_with fail
          clear r0 r1 r2 r3 r4 r5 r6 r7 r8
          refine hl.out.mono ?_
          rintro e V3 ⟨rfl, b1⟩
          replace HST := Aside0.mk (HST.out.below b1)
          replace HNK := Aside0.mk (HNK.out.trans (NK.of_below b1))
          clear b1 hl
          have hnt := Aside0.mk (HST.out.note (by omega) (Cn.window x d) 11 k)
          go_wp2_with fail
          refine hnt.out.mono ?_
          rintro e U3 ⟨rfl, hs, hk⟩
          replace HST := Aside0.mk hs
          replace HNK := Aside0.mk (HNK.out.trans hk)
          clear hs hk hnt
          obtain ⟨r0, r1, r2, r3, r4, r5, r6, r7, r8⟩ := ob_cells (HNK.out _ _ HB0.out hgk.out (fun c f e => by simp at e))
          obtain ⟨v8, hlk⟩ := HST.out.lk
          have hl := Aside0.mk (service_walk hlk d k)
          clear hlk
          go_wp2_with fail
          clear r0 r1 r2 r3 r4 r5 r6 r7 r8
          refine hl.out.mono ?_
          rintro e V4 ⟨rfl, b1⟩
          replace HST := Aside0.mk (HST.out.below b1)
          replace HNK := Aside0.mk (HNK.out.trans (NK.of_below b1))
          clear b1 hl
          have hnt := Aside0.mk (HST.out.note (by omega) (Cn.service x d) 12 k)
          go_wp2_with fail
          refine hnt.out.mono ?_
          rintro e U4 ⟨rfl, hs, hk⟩
          replace HST := Aside0.mk hs
          replace HNK := Aside0.mk (HNK.out.trans hk)
          clear hs hk hnt
          obtain ⟨r0, r1, r2, r3, r4, r5, r6, r7, r8⟩ := ob_cells (HNK.out _ _ HB0.out hgk.out (fun c f e => by simp at e))
          obtain ⟨v8, hlk⟩ := HST.out.lk
          have hl := Aside0.mk (mate_walk hlk (Kd.C_below HC6.out HST.out.bel) HN4 d k)
          clear hlk
          go_wp2_with fail
          clear r0 r1 r2 r3 r4 r5 r6 r7 r8
          refine hl.out.mono ?_
          rintro e V5 ⟨rfl, b1⟩
          replace HST := Aside0.mk (HST.out.below b1)
          replace HNK := Aside0.mk (HNK.out.trans (NK.of_below b1))
          clear b1 hl
          have hnt := Aside0.mk (HST.out.note (by omega) (Cn.mate x d k) 13 k)
          go_wp2_with fail
          refine hnt.out.mono ?_
          rintro e U5 ⟨rfl, hs, hk⟩
          replace HST := Aside0.mk hs
          replace HNK := Aside0.mk (HNK.out.trans hk)
          clear hs hk hnt
          have HE : Aside0 (ST w U5 x (.slice (some ad) x.nodes.length c6) (.slice A7 x.mx.length c7) (G ++ Cn.nt (Cn.matrix x) 8 0 ++ Cn.nodesF x (k + 1)) (7 + 5 * (k + 1))) := ⟨by
            have h1 := HST.out
            rw [Cn.nodesF_succ]
            unfold Cn.nodeF
            rw [hd.out]
            simp only [List.append_assoc] at h1 ⊢
            exact h1⟩
          clear HST HNK
          go_wp2_with fail
          go_roundw
          case rel => exact ⟨k + 1, by omega, by go_num, HE.out⟩
          case measure => simp [intOf]; omega
        · have hke : k = x.nodes.length := by omega
          have hdk : decide (k < x.nodes.length) = false := decide_eq_false hlt
          obtain ⟨_, _, _, v8, hlk, hown⟩ := HST.out.ck
          have q1 := HST.out.cp
          have q2 := hlk.c8
          have HE : Aside0 (F = G ++ Cn.nt (Cn.matrix x) 8 0 ++ Cn.nodesF x k) := ⟨by rw [← hF.out, ← HG.out, hke]; unfold Cn.check; rw [hbn.out]; rfl⟩
          have HO := Aside0.mk hown
          clear hlk hown hke
          go_wp2_with fail
          go_ret
          exact ⟨_, rfl, by rw [HE.out]; exact HO.out, HST.out.bel⟩
end Go.Proofs.YtofklpphalalhaaGreatDoor
end
section
namespace Go.Proofs.YtofklpphalalhaaGreatDoor
set_option linter.unusedVariables false
set_option linter.unusedSimpArgs false
open Go.RowKit Go.Proofs.YtofklpphalalhaaGreatDoor.PAll Go.Proofs.YtofklpphalalhaaGreatDoorW.PrintWords Go.Proofs.YtofklpphalalhaaGreatDoorW.PrintLast Go.Proofs.YtofklpphalalhaaGreatDoorW.PrintMore
namespace Cn
def odd (d : S71) : Bool := Int.tmod d.f0 10 != 0 || Int.tmod d.f1 10 != 0
/-- The place of the first node that is so; -1: none is. -/
def idxN (p : S71 → Bool) : Int → List S71 → Int
 | _, [] => -1
 | i, x :: l => if p x = true then i else idxN p (i + 1) l
theorem idxN_any (p : S71 → Bool) : ∀ (l : List S71) (i : Int), 0 ≤ i → (0 ≤ idxN p i l ↔ l.any p = true) ∧ idxN p i l < i + l.length + 1
  | [], i, hi => by simp [idxN]; omega
  | x :: l, i, hi => by
    unfold idxN
    have := idxN_any p l (i + 1) (by omega)
    by_cases h : p x = true
    · rw [if_pos h]; simp [h, hi]; omega
    · rw [if_neg h]; simp only [List.any_cons, Bool.eq_false_iff.2 h, Bool.false_or, List.length_cons]; exact ⟨this.1, by omega⟩
end Cn
set_option maxRecDepth 100000 in
theorem odd_walk (d : S71) (w : World) : Calls Tryz.prog 69 #[nodeV d] w fun e w' => e = .returned (.bool (Cn.odd d)) ∧ Below w.heap.size w w' := by
 obtain ⟨a, ha⟩ : ∃ a, (Int.tmod d.f0 10 != 0) = a := ⟨_, rfl⟩
 have hT : Cn.odd d = (a || Int.tmod d.f1 10 != 0) := by unfold Cn.odd; rw [ha]
 rw [hT]
 clear hT
 cases a
 all_goals
  go_enter Tryz.func69, Tryz.ntmps69
  go_wp2
  go_ret
  exact ⟨rfl, below_one _ _⟩
set_option maxRecDepth 100000 in
set_option maxHeartbeats 2000000 in
theorem odd_index (A : Option Addr) (c : Nat) (l : List S71) (w : World) (hC : Kd.C k71 w A l.length l) : Calls Tryz.prog 116 #[.slice A l.length c, .func (.func 69) #[] #[]] w fun e w' => e = .returned (.int .i64 (Cn.idxN Cn.odd 0 l)) ∧ Below w.heap.size w w' := by
  have hl := (C_len hC).2
  have HC := Aside0.mk hC
  clear hC
  obtain ⟨r, hr⟩ : ∃ r, Cn.idxN Cn.odd 0 l = r := ⟨_, rfl⟩
  rw [hr]
  have HR := Aside0.mk hr
  clear hr
  go_enter Tryz.func116, Tryz.ntmps116
  go_wp2
  go_loopw [8, 5] (fun i _ wr => ∃ k : Nat, k ≤ l.length ∧ i = .int .i64 k ∧ Aside0 (Cn.idxN Cn.odd k (l.drop k) = r) ∧ Below w.heap.size w wr) (fun i _ _ => l.length - (intOf i).toNat)
  case atStart => exact ⟨0, Nat.zero_le _, rfl, HR, Below.refl _ _⟩
  case round =>
    obtain ⟨k, hk, rfl, hg, hB⟩ := hrel
    by_cases hlt : k < l.length
    · obtain ⟨ad, e, x0, x1, x2, x3, x4, x5, x6⟩ := at_T71 (Kd.C_below HC.out hB) (k : Int) (by omega) (by omega)
      subst e
      simp only [Int.toNat_natCast] at x0 x1 x2 x3 x4 x5 x6
      obtain ⟨x, hx⟩ : ∃ x, rd_T71 l k = x := ⟨_, rfl⟩
      have hdr : l.drop k = x :: l.drop (k + 1) := by
        rw [List.drop_eq_getElem_cons hlt, ← hx]
        unfold rd_T71
        rw [Int.toNat_natCast, List.getD_eq_getElem?_getD, List.getElem?_eq_getElem hlt]; rfl
      rw [hx] at x0 x1 x2 x3 x4 x5 x6
      have hw := odd_walk x wr
      have hst := hg.out
      rw [hdr] at hst
      unfold Cn.idxN at hst
      generalize hb : Cn.odd x = b at hw hst
      have HW := Aside0.mk hw
      have HS := Aside0.mk hst
      have HB := Aside0.mk hB
      clear hx hdr hw hst hg hb hB
      go_wp2_with fail
      refine HW.out.mono ?_
      rintro e w' ⟨rfl, b1⟩
      replace HB := Aside0.mk (HB.out.trans (b1.mono HB.out.size))
      clear b1 x0 x1 x2 x3 x4 x5 x6
      cases b with
      | false =>
        have HS' : Aside0 (Cn.idxN Cn.odd ((k + 1 : Nat) : Int) (l.drop (k + 1)) = r) := ⟨by have := HS.out; simpa using this⟩
        clear HS HW
        go_wp2
        go_roundw
        case rel => exact ⟨k + 1, by omega, by go_num, HS', HB.out⟩
        case measure => simp [intOf]; omega
      | true =>
        have hre : (k : Int) = r := by have := HS.out; simpa using this
        have HRE := Aside0.mk hre
        clear HS HW hre
        go_wp2
        go_ret
        exact ⟨congrArg (fun r => Ending.returned (.int .i64 r)) HRE.out, HB.out⟩
    · have hke : k = l.length := by omega
      have HS : Aside0 ((-1 : Int) = r) := ⟨by have := hg.out; rw [hke, List.drop_length] at this; exact this⟩
      have hd : decide (k < l.length) = false := decide_eq_false hlt
      have HB := Aside0.mk hB
      clear hke hg hB
      go_wp2
      go_ret
      exact ⟨congrArg (fun r => Ending.returned (.int .i64 r)) HS.out, HB.out⟩
theorem odd_contains (A : Option Addr) (c : Nat) (l : List S71) (w : World) (hC : Kd.C k71 w A l.length l) : Calls Tryz.prog 71 #[.slice A l.length c, .func (.func 69) #[] #[]] w fun e w' => e = .returned (.bool (l.any Cn.odd)) ∧ Below w.heap.size w w' := by
 have hi := odd_index A c l w hC
 have ha := Cn.idxN_any Cn.odd l 0 (Int.le_refl _)
 have hb : decide (0 ≤ Cn.idxN Cn.odd 0 l) = l.any Cn.odd := by
  rw [Bool.eq_iff_iff, decide_eq_true_iff]; exact ha.1
 rw [← hb]
 generalize Cn.idxN Cn.odd 0 l = i at hi
 have HI := Aside0.mk hi
 clear hi ha hb hC
 go_enter Tryz.func71, Tryz.ntmps71
 go_wp2_with fail
 refine HI.out.mono ?_
 rintro e w' ⟨rfl, b1⟩
 have HB := Aside0.mk b1
 clear b1
 go_wp2
 go_ret
 exact ⟨rfl, HB.out⟩
end Go.Proofs.YtofklpphalalhaaGreatDoor
end
section
namespace Go.Proofs
open Go.Shelf
def Tryz.laysCloneN_ren : Go.Shelf.Ren := ⟨fun | 41 => 67 | n => n, fun | 22 => 22 | 23 => 71 | 4 => 4 | n => n, fun | n => n⟩
theorem Tryz.laysCloneN : Go.Proofs.SlLaysE0.n41 Tryz.prog Tryz.laysCloneN_ren := {
 mixed := by kernel_rfl
 f41 := ⟨Tryz.f67.name, by decide, Tryz.func67.trans (congrArg some (by kernel_rfl))⟩
 t4 := Tryz.underlying4
 a4 := Tryz.isAgg4
 z4 := Tryz.sizeOf4
 v4 := Tryz.zeroValue4
 t22 := Tryz.underlying22
 a22 := Tryz.isAgg22
 z22 := Tryz.sizeOf22
 v22 := Tryz.zeroValue22 }
def Tryz.laysCloneI_ren : Go.Shelf.Ren := ⟨fun | 41 => 68 | n => n, fun | 22 => 23 | 23 => 3 | 4 => 4 | n => n, fun | n => n⟩
theorem Tryz.laysCloneI : Go.Proofs.SlLaysE0.n41 Tryz.prog Tryz.laysCloneI_ren := {
 mixed := by kernel_rfl
 f41 := ⟨Tryz.f68.name, by decide, Tryz.func68.trans (congrArg some (by kernel_rfl))⟩
 t4 := Tryz.underlying4
 a4 := Tryz.isAgg4
 z4 := Tryz.sizeOf4
 v4 := Tryz.zeroValue4
 t22 := Tryz.underlying23
 a22 := Tryz.isAgg23
 z22 := Tryz.sizeOf23
 v22 := Tryz.zeroValue23 }
def Tryz.laysSort_ren : Go.Shelf.Ren := ⟨fun | 6 => 167 | 15 => 202 | 14 => 201 | 28 => 234 | 29 => 235 | 20 => 226 | 21 => 227 | 22 => 228 | 23 => 229 | 24 => 230 | 25 => 231 | 26 => 232 | 27 => 233 | 46 => 256 | 47 => 257 | 48 => 258 | 49 => 259 | 50 => 260 | 57 => 276 | n => n, fun | 22 => 32 | 24 => 38 | 25 => 212 | 3 => 3 | 39 => 175 | 0 => 0 | 53 => 129 | 55 => 191 | 4 => 4 | 46 => 262 | 45 => 261 | 50 => 160 | 5 => 5 | 9 => 9 | 66 => 283 | 70 => 88 | 76 => 303 | 77 => 304 | n => n, fun | n => n⟩
theorem Tryz.laysSort : Go.Proofs.SlLaysF0.n6 Tryz.prog Tryz.laysSort_ren := {
 mixed := by kernel_rfl
 f6 := ⟨Tryz.f167.name, by decide, Tryz.func167.trans (congrArg some (by kernel_rfl))⟩
 f14 := ⟨Tryz.f201.name, by decide, Tryz.func201.trans (congrArg some (by kernel_rfl))⟩
 f15 := Tryz.func202.trans (congrArg some (by kernel_rfl))
 f20 := ⟨Tryz.f226.name, by decide, Tryz.func226.trans (congrArg some (by kernel_rfl))⟩
 f21 := ⟨Tryz.f227.name, by decide, Tryz.func227.trans (congrArg some (by kernel_rfl))⟩
 f22 := ⟨Tryz.f228.name, by decide, Tryz.func228.trans (congrArg some (by kernel_rfl))⟩
 f23 := ⟨Tryz.f229.name, by decide, Tryz.func229.trans (congrArg some (by kernel_rfl))⟩
 f24 := ⟨Tryz.f230.name, by decide, Tryz.func230.trans (congrArg some (by kernel_rfl))⟩
 f25 := ⟨Tryz.f231.name, by decide, Tryz.func231.trans (congrArg some (by kernel_rfl))⟩
 f26 := ⟨Tryz.f232.name, by decide, Tryz.func232.trans (congrArg some (by kernel_rfl))⟩
 f27 := ⟨Tryz.f233.name, by decide, Tryz.func233.trans (congrArg some (by kernel_rfl))⟩
 f28 := Tryz.func234.trans (congrArg some (by kernel_rfl))
 f29 := Tryz.func235.trans (congrArg some (by kernel_rfl))
 f46 := ⟨Tryz.f256.name, by decide, Tryz.func256.trans (congrArg some (by kernel_rfl))⟩
 f47 := Tryz.func257.trans (congrArg some (by kernel_rfl))
 f48 := Tryz.func258.trans (congrArg some (by kernel_rfl))
 f49 := ⟨Tryz.f259.name, by decide, Tryz.func259.trans (congrArg some (by kernel_rfl))⟩
 f50 := ⟨Tryz.f260.name, by decide, Tryz.func260.trans (congrArg some (by kernel_rfl))⟩
 f57 := ⟨Tryz.f276.name, by decide, Tryz.func276.trans (congrArg some (by kernel_rfl))⟩
 t0 := Tryz.underlying0
 a0 := Tryz.isAgg0
 z0 := Tryz.sizeOf0
 v0 := Tryz.zeroValue0
 t3 := Tryz.underlying3
 a3 := Tryz.isAgg3
 z3 := Tryz.sizeOf3
 v3 := Tryz.zeroValue3
 t4 := Tryz.underlying4
 a4 := Tryz.isAgg4
 z4 := Tryz.sizeOf4
 v4 := Tryz.zeroValue4
 t5 := Tryz.underlying5
 a5 := Tryz.isAgg5
 z5 := Tryz.sizeOf5
 v5 := Tryz.zeroValue5
 t9 := Tryz.underlying9
 a9 := Tryz.isAgg9
 z9 := Tryz.sizeOf9
 v9 := Tryz.zeroValue9
 t22 := Tryz.underlying32
 a22 := Tryz.isAgg32
 z22 := Tryz.sizeOf32
 v22 := Tryz.zeroValue32
 t25 := Tryz.underlying212
 a25 := Tryz.isAgg212
 z25 := Tryz.sizeOf212
 v25 := Tryz.zeroValue212
 t39 := Tryz.underlying175
 a39 := Tryz.isAgg175
 z39 := Tryz.sizeOf175
 v39 := Tryz.zeroValue175
 t45 := Tryz.underlying261
 a45 := Tryz.isAgg261
 z45 := Tryz.sizeOf261
 v45 := Tryz.zeroValue261
 t46 := Tryz.underlying262
 a46 := Tryz.isAgg262
 z46 := Tryz.sizeOf262
 v46 := Tryz.zeroValue262
 t50 := Tryz.underlying160
 a50 := Tryz.isAgg160
 z50 := Tryz.sizeOf160
 v50 := Tryz.zeroValue160
 t53 := Tryz.underlying129
 a53 := Tryz.isAgg129
 z53 := Tryz.sizeOf129
 v53 := Tryz.zeroValue129
 t55 := Tryz.underlying191
 a55 := Tryz.isAgg191
 z55 := Tryz.sizeOf191
 v55 := Tryz.zeroValue191
 t66 := Tryz.underlying283
 a66 := Tryz.isAgg283
 z66 := Tryz.sizeOf283
 v66 := Tryz.zeroValue283
 t70 := Tryz.underlying88
 a70 := Tryz.isAgg88
 z70 := Tryz.sizeOf88
 v70 := Tryz.zeroValue88
 t76 := Tryz.underlying303
 a76 := Tryz.isAgg303
 z76 := Tryz.sizeOf303
 v76 := Tryz.zeroValue303
 t77 := Tryz.underlying304
 a77 := Tryz.isAgg304
 z77 := Tryz.sizeOf304
 v77 := Tryz.zeroValue304 }
def Tryz.laysCmp_ren : Go.Shelf.Ren := ⟨fun | 5 => 237 | 7 => 261 | n => n, fun | 22 => 3 | 3 => 3 | 4 => 4 | n => n, fun | n => n⟩
theorem Tryz.laysCmp : Go.Proofs.SlLaysC2.n5 Tryz.prog Tryz.laysCmp_ren := {
 mixed := by kernel_rfl
 f5 := ⟨Tryz.f237.name, by decide, Tryz.func237.trans (congrArg some (by kernel_rfl))⟩
 f7 := ⟨Tryz.f261.name, by decide, Tryz.func261.trans (congrArg some (by kernel_rfl))⟩
 t3 := Tryz.underlying3
 a3 := Tryz.isAgg3
 z3 := Tryz.sizeOf3
 v3 := Tryz.zeroValue3
 t4 := Tryz.underlying4
 a4 := Tryz.isAgg4
 z4 := Tryz.sizeOf4
 v4 := Tryz.zeroValue4
 t22 := Tryz.underlying3
 a22 := Tryz.isAgg3
 z22 := Tryz.sizeOf3
 v22 := Tryz.zeroValue3 }
def Tryz.laysCmpE_ren : Go.Shelf.Ren := ⟨fun | 5 => 238 | 7 => 262 | n => n, fun | 22 => 36 | 3 => 3 | 4 => 4 | n => n, fun | n => n⟩
theorem Tryz.laysCmpE : Go.Proofs.SlLaysC2.n5 Tryz.prog Tryz.laysCmpE_ren := {
 mixed := by kernel_rfl
 f5 := ⟨Tryz.f238.name, by decide, Tryz.func238.trans (congrArg some (by kernel_rfl))⟩
 f7 := ⟨Tryz.f262.name, by decide, Tryz.func262.trans (congrArg some (by kernel_rfl))⟩
 t3 := Tryz.underlying3
 a3 := Tryz.isAgg3
 z3 := Tryz.sizeOf3
 v3 := Tryz.zeroValue3
 t4 := Tryz.underlying4
 a4 := Tryz.isAgg4
 z4 := Tryz.sizeOf4
 v4 := Tryz.zeroValue4
 t22 := Tryz.underlying36
 a22 := Tryz.isAgg36
 z22 := Tryz.sizeOf36
 v22 := Tryz.zeroValue36 }
end Go.Proofs
end
