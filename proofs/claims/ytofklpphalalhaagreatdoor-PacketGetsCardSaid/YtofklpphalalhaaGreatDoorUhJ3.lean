/- Texts of this claim, joined: GivenF, Pk. Each as it was, cut to what the claim uses. Conditions: each theorem's own. -/
import Derived.Test.YtofklpphalalhaaGreatDoorUhJ1
import Derived.Test.YtofklpphalalhaaGreatDoorUhJ2
import Derived.Laws.AppendOwn
import Derived.RegionTactic
import Derived.Lib.OwnBridge
section
namespace Go.Proofs.YtofklpphalalhaaGreatDoor
set_option linter.unusedVariables false
set_option linter.unusedSimpArgs false
open Go.RowKit Go.Proofs.YtofklpphalalhaaGreatDoor.PAll Go.Proofs.YtofklpphalalhaaGreatDoorW.PrintWords Go.Proofs.YtofklpphalalhaaGreatDoorW.PrintLast Go.Proofs.YtofklpphalalhaaGreatDoorW.PrintMore
/-- A fault's cells. -/
def fac (x : S169) : List Value := [.int .i64 x.f0, .int .i64 x.f1]
def flatF (l : List S169) : List Value := l.flatMap fac
theorem flatF_append (a b : List S169) : flatF (a ++ b) = flatF a ++ flatF b := by simp [flatF]
theorem info169 : (Tryz.prog.info? 169).map (fun i => (i.zero, i.size, i.bytes)) = some (some (.agg #[.int .i64 0, .int .i64 0]), 2, 16) := by kernel_rfl
/-- What Check has: the looker, the variable that its closure captures, and the faults so far. -/
def CK (w : World) (base p kb : Nat) (x : Cn.In) (v6 v7 : Value) (fs : List S169) : Prop :=
 w.heap[p]? = some (.cells #[.pointer (some ⟨kb, 0, none⟩)] 204 (0, 0)) ∧ base ≤ p ∧ base ≤ kb ∧ ∃ v8, LK w kb x v6 v7 v8 ∧ w.ownsRow base 169 2 v8 fs.length (flatF fs)
theorem own169_ne {w : World} {base n B T : Nat} {v : Value} {xs : List Value} {cs : Array Value} {fr : Nat × Nat} (hown : w.ownsRow base 169 2 v n xs) (hb : w.heap[B]? = some (.cells cs T fr)) (hT : T ≠ 169) : v.ownBlock ≠ some B := by
 rcases hown.2 with ⟨rfl, _⟩ | ⟨g, cap, cur, rfl, _, hg, _⟩
 ·simp [Value.ownBlock]
 ·intro h
  simp only [Value.ownBlock, Option.some.injEq] at h
  subst h
  rw [hg] at hb
  simp only [Option.some.injEq, Obj.cells.injEq] at hb
  exact hT hb.2.1.symm
section
variable {w w' : World} {base p kb : Nat} {x : Cn.In} {v6 v7 : Value} {fs : List S169}
theorem CK.below (h : CK w base p kb x v6 v7 fs) (hb : Below w.heap.size w w') : CK w' base p kb x v6 v7 fs := by
 obtain ⟨h1, h2, h3, v8, h4, h5⟩ := h
 refine ⟨(hb.block p (Array.getElem?_eq_some_iff.1 h1).1).trans h1, h2, h3, v8, h4.below hb, ?_⟩
 refine ⟨h5.1, ?_⟩
 rcases h5.2 with h6 | ⟨g, cap, cur, rfl, h7, hg, h8⟩
 ·exact .inl h6
 ·exact .inr ⟨g, cap, cur, rfl, h7, by rw [hb.block g (Array.getElem?_eq_some_iff.1 hg).1]; exact hg, h8⟩
theorem CK.base_le (h : CK w base p kb x v6 v7 fs) : base ≤ w.heap.size := by
 have := (Array.getElem?_eq_some_iff.1 h.1).1
 have := h.2.1
 omega
theorem CK.cp (h : CK w base p kb x v6 v7 fs) : w.cell? ⟨p, 0, none⟩ = some (.pointer (some ⟨kb, 0, none⟩)) := by rw [Lib.cell_of_heap h.1]; rfl
end
/-- All blocks but kb, and but rows of faults, stay. -/
def NK (kb : Nat) (w w' : World) : Prop := ∀ k o, w.heap[k]? = some o → k ≠ kb → (∀ c f, o ≠ .cells c 169 f) → w'.heap[k]? = some o
theorem NK.refl (kb : Nat) (w : World) : NK kb w w := fun _ _ h _ _ => h
theorem NK.trans {kb : Nat} {a b c : World} (h : NK kb a b) (k : NK kb b c) : NK kb a c := fun i o hi hb ho => k i o (h i o hi hb ho) hb ho
theorem NK.of_below {kb : Nat} {w w' : World} (h : Below w.heap.size w w') : NK kb w w' := fun k o hk _ _ => (h.block k (Array.getElem?_eq_some_iff.1 hk).1).trans hk
theorem cell_alloc {w : World} {a : Addr} {v : Value} {o : Obj} (h : w.cell? a = some v) : (w.alloc o).cell? a = some v := by
 have hb := World.block_lt_of_cell? w _ h
 rw [World.cell?_of_block (w := w) (Below.heap_alloc w o a.block hb)]; exact h
theorem own_form {w : World} {base e z n : Nat} {v : Value} {xs : List Value} (h : w.ownsRow base e z v (n + 1) xs) : ∃ g cap, v = .slice (some ⟨g, 0, none⟩) (n + 1) cap := by
 rcases h.2 with ⟨_, h0⟩ | ⟨g, cap, cur, hv, _⟩
 ·omega
 ·exact ⟨g, cap, hv⟩
theorem grown_set (w : World) (B j : Nat) (u : Value) : w.grownBy (w.setCell ⟨B, j, none⟩ u) (some B) :=
 ⟨rfl, rfl, rfl, by simp [World.setCell], fun k _ hk => Below.heap_setCell _ _ _ _ (fun e => hk (by simp [e]))⟩
/-- append of one fault, as a step of a region that draws its order. -/
theorem step_append_fault {ops : Array Oper} {o : Oper} {a : Act} {w : World} {Q : Exit → Act → World → Prop} {K : Act → World → Prop} (hw : Region.wanted o (yielded ops a.tmps) = true) (s x : Operand)
  (ho : o.op = .call { callee := .builtin .append, args := #[s, x], argTypes := #[166, 166] }) (base : Nat) (v : Value) (n : Nat) (vs : List Value) (hs : a.eval s = v) (hown : w.ownsRow base 169 2 v n vs) (g : Nat) (hx : a.eval x = .slice (some ⟨g, 0, none⟩) 1 1) (y : S169)
  (hg : w.heap[g]? = some (.cells (fac y).toArray 169 (0, 0))) (hlen : n ≤ 1000000000) (hbase : base ≤ w.heap.size)
  (h : ∀ v' w', w'.ownsRow base 169 2 v' (n + 1) (vs ++ fac y) → w.grownBy w' v.ownBlock → K (a.put o.dst v') w') :
  if Region.wanted o (yielded ops a.tmps) = true then Oper.wp Tryz.prog o a w K Q else K (a.put o.dst undef) w := by
 rw [if_pos hw]
 obtain ⟨i0, hi, hz0, hz1, hz2⟩ := info_parts info169
 obtain ⟨v', w', hr, h2, h3, _⟩ := run_append_own w base 166 o.type 169 i0 _ 2 16 Tryz.underlying166 hi hz0 hz1 hz2 rfl (by decide) v n vs hown ⟨g, 0, none⟩ 1 1 (fac y) rfl (fun j u hj => by
  match j, hj with
  | 0, hj => simp [fac] at hj; subst hj; simp [World.cell?, Addr.add, hg, fac]
  | 1, hj => simp [fac] at hj; subst hj; simp [World.cell?, Addr.add, hg, fac]) (fun u hu => by simp [fac] at hu; rcases hu with rfl | rfl <;> rfl) (by simp only [maxLen]; omega) (by omega) hbase
 unfold Oper.wp execOp
 simp only [ho, resolve, invoke, builtin, Sem.run_bind, Sem.run_pure, Result.andThen_ok, List.map_toArray, List.map_cons, List.map_nil, hs, hx, hr]
 exact h v' w' h2 h3
theorem note_fine {w : World} {base p kb : Nat} {x : Cn.In} {v6 v7 : Value} {fs : List S169} (h : CK w base p kb x v6 v7 fs) (f n : Int) :
  Calls Tryz.prog 156 #[.bool true, .int .i64 f, .int .i64 n, .pointer (some ⟨p, 0, none⟩)] w fun e w' => e = .returned (.tuple #[]) ∧ CK w' base p kb x v6 v7 fs ∧ Below base w w' ∧ NK kb w w' := by
 have HF := Aside0.mk (And.intro h (And.intro (Below.refl base w) (NK.refl kb w)))
 clear h
 go_enter Tryz.func156, Tryz.ntmps156
 go_wp2
 go_end0
 exact ⟨rfl, HF.out⟩
set_option maxRecDepth 100000 in
set_option maxHeartbeats 4000000 in
theorem note_fault {w : World} {base p kb : Nat} {x : Cn.In} {v6 v7 : Value} {fs : List S169} (h : CK w base p kb x v6 v7 fs) (hn : fs.length ≤ 1000000000) (f n : Int) :
  Calls Tryz.prog 156 #[.bool false, .int .i64 f, .int .i64 n, .pointer (some ⟨p, 0, none⟩)] w fun e w' => e = .returned (.tuple #[]) ∧ CK w' base p kb x v6 v7 (fs ++ [⟨f, n⟩]) ∧ Below base w w' ∧ NK kb w w' := by
 have hbw := h.base_le
 have c0 := h.cp
 obtain ⟨hp, hbp, hbk, v, hK, ho⟩ := h
 have c8 := hK.c8
 have HP := Aside0.mk hp
 have HM := Aside0.mk hK
 have HO := Aside0.mk ho
 clear hp hK ho
 obtain ⟨m, hm'⟩ : ∃ m, fs.length = m := ⟨_, rfl⟩
 rw [hm'] at HO hn
 replace hm' := Aside0.mk hm'
 go_enter Tryz.func156, Tryz.ntmps156
 go_wp2_with fail
 refine start_ (n := 13) (S := fun w' => w'.cell? ⟨p, 0, none⟩ = some (.pointer (some ⟨kb, 0, none⟩)) ∧ w'.cell? ⟨kb, 8, none⟩ = some v) (ds := [12]) #[false, false, false, false, false, false, false, false, false, false, false, false, false] (by kernel_rfl) rfl rfl ⟨c0, c8⟩ (fun hHeld => ?_)
 refine pz (i := 5) (N := some 14) (bz 13 32) ?_
 refine pz (i := 6) (N := some 15) (bz 13 96) ?_
 refine pz (i := 7) (N := some 16) (bz 13 224) ?_
 refine tz (i := 0) (N := some 9) (bz 13 225) hHeld ?_
 refine tz (i := 1) (N := some 10) (bz 13 227) hHeld ?_
 refine pz (i := 2) (N := some 11) (bz 13 231) ?_
 refine pz (i := 3) (N := some 12) (bz 13 239) ?_
 refine tz (i := 4) (N := some 13) (bz 13 255) hHeld ?_
 refine one_ (i := 8) (N := some 17) (bz 13 511) rfl rfl (by kernel_rfl) (by decide) (fun K hK => ?_)
 refine vz ?_
 refine hK.out _ _ ⟨cell_alloc c0, cell_alloc c8⟩ (fun hHeld => ?_)
 clear hK K
 refine nz (N := some 17) ?_
 refine one_ (i := 9) (N := some 18) (bz 13 1023) rfl rfl (by kernel_rfl) (by decide) (fun K hK => ?_)
 refine step_append_fault (by rfl) (.tmp 13) (.tmp 17) rfl base v m (flatF fs) (by rfl) (HO.out.alloc _) w.heap.size (by rfl) ⟨f, n⟩ Array.getElem?_push_size hn (by simp; omega) ?_
 intro v' w3 hown hgrow
 obtain ⟨g', cap', rfl⟩ := own_form hown
 have hB2 : Below w.heap.size w ((w.alloc (.cells #[.int .i64 f, .int .i64 n] 169)).drew) := (below_one _ _).drew
 have hM3 : Aside0 (LK w3 kb x v6 v7 v) := ⟨(hgrow.block kb (by have := (HM.out.below hB2).lt; exact this) (fun e => own169_ne HO.out HM.out (by decide) e.symm)).trans (HM.out.below hB2)⟩
 have hP3 : Aside0 (w3.heap[p]? = some (.cells #[.pointer (some ⟨kb, 0, none⟩)] 204 (0, 0))) := ⟨(hgrow.block p (Nat.lt_of_lt_of_le (Array.getElem?_eq_some_iff.1 HP.out).1 hB2.size) (fun e => own169_ne HO.out HP.out (by decide) e.symm)).trans ((hB2.block p (Array.getElem?_eq_some_iff.1 HP.out).1).trans HP.out)⟩
 have hB3 : Aside0 (Below base w w3) := ⟨(hB2.mono hbw).grown hgrow (by simp; omega) (fun k hk => (HO.out.lt k hk).1)⟩
 have hN3 : Aside0 (NK kb w w3) := ⟨fun k o hk hkb hty => by rw [hgrow.block k (Nat.lt_of_lt_of_le (Array.getElem?_eq_some_iff.1 hk).1 hB2.size) (fun e => by obtain ⟨c, hc⟩ := own_typed HO.out k e.symm; rw [hk] at hc; exact hty _ _ (Option.some.inj hc))]; exact (hB2.block k (Array.getElem?_eq_some_iff.1 hk).1).trans hk⟩
 have f3 := blk_frozen hM3.out 8
 have c3 := hM3.out.c8
 refine hK.out _ _ ⟨(show w3.cell? ⟨p, 0, none⟩ = some (.pointer (some ⟨kb, 0, none⟩)) by rw [Lib.cell_of_heap hP3.out]; rfl), hM3.out.c8⟩ (fun hHeld => ?_)
 clear hK K
 refine nz (N := some 18) ?_
 refine pz (i := 10) (N := some 19) (bz 13 2047) ?_
 refine pz (i := 11) (N := some 20) (bz 13 4095) ?_
 refine last_ (i := 12) (N := none) (bz 13 8191) rfl rfl (by kernel_rfl) (by decide) (fun K hK => ?_)
 refine sz ?_
 refine hK.out _ _ ?_
 clear hK K
 refine done_ (by kernel_rfl) ?_
 have hfin : CK (w3.setCell ⟨kb, 8, none⟩ (.slice (some ⟨g', 0, none⟩) (m + 1) cap')) base p kb x v6 v7 (fs ++ [⟨f, n⟩]) := by
  have hne : p ≠ kb := by
   intro e
   have h1 := HP.out
   have h2 := HM.out
   unfold LK at h2
   rw [e, h2] at h1
   simp at h1
  have h1 : w3.ownsRow base 169 2 (.slice (some ⟨g', 0, none⟩) (m + 1) cap') (m + 1) (flatF fs ++ fac ⟨f, n⟩) := hown
  have h2 := h1.kept (grown_set w3 kb 8 (.slice (some ⟨g', 0, none⟩) (m + 1) cap')) (.inr (own169_ne h1 hM3.out (by decide)))
  refine ⟨?_, hbp, hbk, .slice (some ⟨g', 0, none⟩) (m + 1) cap', ?_, ?_⟩
  ·rw [Below.heap_setCell _ _ _ _ hne]
   exact hP3.out
  ·have h3 := blk_put hM3.out 8 (.slice (some ⟨g', 0, none⟩) (m + 1) cap') rfl
   exact h3
  ·rw [List.length_append, hm'.out, flatF_append]
   simpa [flatF] using h2
 have hbel : Below base w (w3.setCell ⟨kb, 8, none⟩ (.slice (some ⟨g', 0, none⟩) (m + 1) cap')) := hB3.out.setCell (p := ⟨kb, 8, none⟩) hbk _
 have hnk : NK kb w (w3.setCell ⟨kb, 8, none⟩ (.slice (some ⟨g', 0, none⟩) (m + 1) cap')) := fun k o hk hkb hty => by
  rw [Below.heap_setCell _ _ _ _ hkb]
  exact hN3.out k o hk hkb hty
 have HF := Aside0.mk (And.intro hfin (And.intro hbel hnk))
 clear hfin hbel hnk hown hgrow f3 c3 hM3 hP3 hB3 hN3
 go_wp2_with fail
 go_end0
 exact ⟨rfl, HF.out⟩
/-- The closure: a fault is noted, if it is one. -/
theorem note_walk {w : World} {base p kb : Nat} {x : Cn.In} {v6 v7 : Value} {fs : List S169} (h : CK w base p kb x v6 v7 fs) (hn : fs.length ≤ 1000000000) (b : Bool) (f n : Int) :
  Calls Tryz.prog 156 #[.bool b, .int .i64 f, .int .i64 n, .pointer (some ⟨p, 0, none⟩)] w fun e w' => e = .returned (.tuple #[]) ∧ CK w' base p kb x v6 v7 (fs ++ (if b = true then [] else [⟨f, n⟩])) ∧ Below base w w' ∧ NK kb w w' := by
 cases b with
 | true => simpa using note_fine h f n
 | false => simpa using note_fault h hn f n
end Go.Proofs.YtofklpphalalhaaGreatDoor
end
section
namespace Pk
/-- The bytes of a number. -/
def putU (n : Nat) : List UInt8 := if n < 128 then [UInt8.ofNat n] else UInt8.ofNat (n % 128 + 128) :: putU (n / 128)
termination_by n
decreasing_by omega
theorem putU_lt {n : Nat} (h : n < 128) : putU n = [UInt8.ofNat n] := by rw [putU, if_pos h]
theorem putU_ge {n : Nat} (h : ¬ n < 128) : putU n = UInt8.ofNat (n % 128 + 128) :: putU (n / 128) := by rw [putU, if_neg h]
/-- The number at a place: value, place behind, error. -/
def gA (s : List UInt8) (at_ : Nat) (i acc : Nat) : Nat × Nat × Nat :=
  if 9 ≤ i then (0, 0, 212) else
  match s[at_ + i]? with
  | none => (0, 0, 211)
  | some b => if 128 ≤ b.toNat then gA s at_ (i + 1) (acc + (b.toNat - 128) * 128 ^ i) else
    if b.toNat = 0 ∧ 0 < i then (0, 0, 212) else (acc + b.toNat * 128 ^ i, at_ + i + 1, 0)
termination_by 9 - i
decreasing_by omega
def getU (s : List UInt8) (at_ : Int) : Nat × Nat × Nat :=
 if at_ < 0 ∨ (s.length : Int) < at_ then (0, 0, 211) else gA s at_.toNat 0 0
theorem putU_len_pos (n : Nat) : 0 < (putU n).length := by
 rw [putU]; split <;> simp
theorem putU_len (k : Nat) : ∀ n, n < 128 ^ (k + 1) → (putU n).length ≤ k + 1 := by
  induction k with
  | zero => intro n h; rw [putU_lt (by simpa using h)]; simp
  | succ k ih =>
    intro n h
    by_cases h1 : n < 128
    · rw [putU_lt h1]; simp
    · rw [putU_ge h1]
      have : n / 128 < 128 ^ (k + 1) := by
        rw [Nat.div_lt_iff_lt_mul (by omega)]
        rw [Nat.pow_succ] at h; exact h
      have := ih _ this
      simp; omega
theorem toNat_ofNat {n : Nat} (h : n < 256) : (UInt8.ofNat n).toNat = n := by
 simp [UInt8.toNat_ofNat']; omega
/-- What is put is got, anywhere: from digit i on. -/
theorem gA_put (k : Nat) : ∀ (n i acc : Nat) (a b : List UInt8), n < 128 ^ (k + 1) → i + k < 9 → (0 < i → 0 < n) → ∀ p, p + i = a.length →
    gA (a ++ putU n ++ b) p i acc = (acc + n * 128 ^ i, a.length + (putU n).length, 0) := by
  induction k with
  | zero =>
    intro n i acc a b hn hi h0 p hp
    have hn' : n < 128 := by simpa using hn
    rw [putU_lt hn', gA, if_neg (by omega)]
    rw [show (a ++ [UInt8.ofNat n] ++ b)[p + i]? = some (UInt8.ofNat n) by
      rw [hp, List.append_assoc, List.getElem?_append_right (by omega)]; simp]
    simp only [toNat_ofNat (show n < 256 by omega)]
    rw [if_neg (by omega), if_neg (by omega)]
    simp; omega
  | succ k ih =>
    intro n i acc a b hn hi h0 p hp
    by_cases h1 : n < 128
    · rw [putU_lt h1, gA, if_neg (by omega)]
      rw [show (a ++ [UInt8.ofNat n] ++ b)[p + i]? = some (UInt8.ofNat n) by
        rw [hp, List.append_assoc, List.getElem?_append_right (by omega)]; simp]
      simp only [toNat_ofNat (show n < 256 by omega)]
      rw [if_neg (by omega), if_neg (by omega)]
      simp; omega
    · rw [putU_ge h1, gA, if_neg (by omega)]
      rw [show (a ++ UInt8.ofNat (n % 128 + 128) :: putU (n / 128) ++ b)[p + i]? = some (UInt8.ofNat (n % 128 + 128)) by
        rw [hp, List.append_assoc, List.getElem?_append_right (by omega)]; simp]
      simp only [toNat_ofNat (show n % 128 + 128 < 256 by omega)]
      rw [if_pos (by omega)]
      have hd : n / 128 < 128 ^ (k + 1) := by
        rw [Nat.div_lt_iff_lt_mul (by omega)]
        rw [Nat.pow_succ] at hn; exact hn
      have := ih (n / 128) (i + 1) (acc + (n % 128 + 128 - 128) * 128 ^ i) (a ++ [UInt8.ofNat (n % 128 + 128)]) b hd (by omega) (by omega) p (by simp; omega)
      rw [show a ++ UInt8.ofNat (n % 128 + 128) :: putU (n / 128) ++ b = a ++ [UInt8.ofNat (n % 128 + 128)] ++ putU (n / 128) ++ b by simp]
      rw [this]
      simp only [List.length_append, List.length_cons, List.length_nil]
      refine Prod.ext ?_ (Prod.ext ?_ rfl)
      · show acc + (n % 128 + 128 - 128) * 128 ^ i + n / 128 * 128 ^ (i + 1) = acc + n * 128 ^ i
        rw [Nat.pow_succ, Nat.mul_comm (128 ^ i) 128, ← Nat.mul_assoc, Nat.add_assoc, ← Nat.add_mul]
        rw [show n % 128 + 128 - 128 + n / 128 * 128 = n by omega]
      · show a.length + (0 + 1) + (putU (n / 128)).length = a.length + ((putU (n / 128)).length + 1); omega
theorem pow9 : (128 : Nat) ^ (8 + 1) = 9223372036854775808 := by decide +kernel
theorem getU_put (n : Nat) (a b : List UInt8) (h : n < 9223372036854775808) :
  getU (a ++ putU n ++ b) (a.length : Int) = (n, a.length + (putU n).length, 0) := by
 unfold getU
 rw [if_neg (by simp; omega)]
 have := gA_put 8 n 0 0 a b (by rw [pow9]; exact h) (by omega) (by omega) a.length (by omega)
 simpa using this
/-- Zigzag. -/
def zig (n : Int) : Nat := if n < 0 then (-1 - 2 * n).toNat else (2 * n).toNat
def zag (n : Nat) : Int := if n % 2 = 1 then -1 - (n / 2 : Nat) else (n / 2 : Nat)
theorem zag_zig (n : Int) : zag (zig n) = n := by unfold zag zig; split <;> split <;> omega
def putI (n : Int) : List UInt8 := if n < -2305843009213693952 ∨ 2305843009213693951 < n then [] else putU (zig n)
def putUI (n : Int) : List UInt8 := if n < 0 then [] else putU n.toNat
def getI (s : List UInt8) (at_ : Int) : Int × Nat × Nat := (zag (getU s at_).1, (getU s at_).2.1, (getU s at_).2.2)
def putT (t : List UInt8) : List UInt8 := putU t.length ++ t
def getT (s : List UInt8) (at_ : Int) : List UInt8 × Nat × Nat :=
 if (getU s at_).2.2 ≠ 0 then ([], 0, (getU s at_).2.2) else
 if s.length < (getU s at_).2.1 + (getU s at_).1 then ([], 0, 211) else
 ((s.drop (getU s at_).2.1).take (getU s at_).1, (getU s at_).2.1 + (getU s at_).1, 0)
/-- One bit, and one byte, of the sum. -/
def crc1 (r : Nat) : Nat := if r % 2 = 1 then (r / 2) ^^^ 3988292384 else r / 2
def crc4 (r : Nat) : Nat := crc1 (crc1 (crc1 (crc1 r)))
def crcB (r c : Nat) : Nat := crc4 (crc4 (r ^^^ c))
def run (r : Nat) (l : List UInt8) : Nat := l.foldl (fun r c => crcB r c.toNat) r
def sum (l : List UInt8) : Nat := 4294967295 - run 4294967295 l
def le4 (n : Nat) : List UInt8 := [UInt8.ofNat (n % 256), UInt8.ofNat (n / 256 % 256), UInt8.ofNat (n / 65536 % 256), UInt8.ofNat (n / 16777216 % 256)]
def shut (l : List UInt8) : List UInt8 := l ++ le4 (sum l)
def opn (s : List UInt8) : List UInt8 × Nat :=
 if s.length < 4 then ([], 211) else if shut (s.take (s.length - 4)) ≠ s then ([], 210) else (s.take (s.length - 4), 0)
theorem xor_half (a b : Nat) : (a ^^^ b) / 2 = a / 2 ^^^ b / 2 := by
 have := Nat.shiftRight_xor_distrib (a := a) (b := b) (i := 1)
 simpa [Nat.shiftRight_succ] using this
theorem xor_mod2 (a b : Nat) : (a ^^^ b) % 2 = (a % 2 + b % 2) % 2 := by
 have h : ((a ^^^ b) % 2 = 1) ↔ ¬ ((a % 2 = 1) ↔ (b % 2 = 1)) := by
  have := Nat.testBit_xor a b 0
  simp only [Nat.testBit_zero] at this
  have e1 : decide ((a ^^^ b) % 2 = 1) = ((decide (a % 2 = 1)) ^^ decide (b % 2 = 1)) := this
  by_cases x : a % 2 = 1 <;> by_cases y : b % 2 = 1 <;> simp_all
 omega
theorem crc1_xor (a b : Nat) : crc1 (a ^^^ b) = crc1 a ^^^ crc1 b := by
 unfold crc1
 rw [xor_half, xor_mod2]
 by_cases x : a % 2 = 1 <;> by_cases y : b % 2 = 1
 ·rw [if_neg (by omega), if_pos x, if_pos y]
  rw [show (a / 2 ^^^ 3988292384) ^^^ (b / 2 ^^^ 3988292384) = (a / 2 ^^^ b / 2) ^^^ (3988292384 ^^^ 3988292384) by ac_rfl]
  simp
 ·rw [if_pos (by omega), if_pos x, if_neg y]; ac_rfl
 ·rw [if_pos (by omega), if_neg x, if_pos y]; ac_rfl
 ·rw [if_neg (by omega), if_neg x, if_neg y]
theorem crc4_xor (a b : Nat) : crc4 (a ^^^ b) = crc4 a ^^^ crc4 b := by unfold crc4; simp only [crc1_xor]
theorem crc1_even (h : Nat) : crc1 (2 * h) = h := by unfold crc1; rw [if_neg (by omega)]; omega
theorem crc4_16 (h : Nat) : crc4 (16 * h) = h := by
 unfold crc4
 rw [show 16 * h = 2 * (2 * (2 * (2 * h))) by omega]
 simp only [crc1_even]
theorem split16 (r : Nat) : r = 16 * (r / 16) ^^^ r % 16 := by
 apply Nat.eq_of_testBit_eq
 intro i
 rw [Nat.testBit_xor]
 have h2 : (r % 16).testBit i = (decide (i < 4) && r.testBit i) := by
  have := Nat.testBit_mod_two_pow r 4 i
  simpa using this
 have h1 : (16 * (r / 16)).testBit i = (decide (4 ≤ i) && r.testBit i) := by
  have e : 16 * (r / 16) = (r >>> 4) <<< 4 := by
   rw [Nat.shiftLeft_eq, Nat.shiftRight_eq_div_pow]; omega
  rw [e, Nat.testBit_shiftLeft, Nat.testBit_shiftRight]
  by_cases h : 4 ≤ i
  ·simp [h]
  ·simp [h]
 rw [h1, h2]
 by_cases h : i < 4
 ·have : ¬ 4 ≤ i := by omega
  simp [h, this]
 ·have : 4 ≤ i := by omega
  simp [h, this]
/-- The table's step is four steps of a bit. -/
theorem crc4_table (r : Nat) : crc4 r = r / 16 ^^^ crc4 (r % 16) := by
 rw [show crc4 r = crc4 (16 * (r / 16) ^^^ r % 16) by rw [← split16], crc4_xor, crc4_16]
theorem crc1_lt {r : Nat} (h : r < 4294967296) : crc1 r < 4294967296 := by
 unfold crc1
 split
 ·exact Nat.xor_lt_two_pow (n := 32) (by omega) (by omega)
 ·omega
theorem crc4_lt {r : Nat} (h : r < 4294967296) : crc4 r < 4294967296 := crc1_lt (crc1_lt (crc1_lt (crc1_lt h)))
theorem xor_byte_lt {r : Nat} (h : r < 4294967296) (c : UInt8) : r ^^^ c.toNat < 4294967296 := by
 have := c.toNat_lt
 exact Nat.xor_lt_two_pow (n := 32) (by omega) (by omega)
theorem crcB_lt {r : Nat} (h : r < 4294967296) (c : UInt8) : crcB r c.toNat < 4294967296 := crc4_lt (crc4_lt (xor_byte_lt h c))
theorem sum_lt (l : List UInt8) : sum l < 4294967296 := by unfold sum; omega
theorem shut_len (l : List UInt8) : (shut l).length = l.length + 4 := by simp [shut, le4]
theorem opn_shut (l : List UInt8) : opn (shut l) = (l, 0) := by
 unfold opn
 rw [if_neg (by rw [shut_len]; omega), shut_len, show l.length + 4 - 4 = l.length by omega]
 rw [show (shut l).take l.length = l by simp [shut], if_neg (by simp)]
end Pk
end
