/- Texts of this claim, joined: EvsR, PlC, GivenZ. Each as it was, cut to what the claim uses. Conditions: each theorem's own. -/
import Derived.Test.YtofklpphalalhaaGreatDoorUhJ16
import Derived.Test.YtofklpphalalhaaGreatDoorUhPAllx17
import Derived.Test.YtofklpphalalhaaGreatDoorUhPAllx18
import Derived.Test.YtofklpphalalhaaGreatDoorUhJ24
section
namespace Go.Proofs.YtofklpphalalhaaGreatDoor.Evs
open Go.RowKit Go.Proofs.YtofklpphalalhaaGreatDoor.PAll Go.Proofs.YtofklpphalalhaaGreatDoorW.PrintWords Go.Proofs.YtofklpphalalhaaGreatDoorW.PrintLast
/-- One round of the reference's loop. -/
theorem refGetUint_round (s : ByteArray) (n i acc P : Nat) (hs : s.size ≤ 140737488351232) (hi : i < 9) (hP : P ≤ 72057594037927936) (ha : acc < P) (c : Int) (hb : bt s ((n + i : Nat) : Int) = c) (hc0 : 0 ≤ c) (hc1 : c ≤ 255) (hl : n + i < s.size) (m : Nat) :
  entrepotref21_GetUint.l0 (m + 1) s (n : Int) (acc : Int) (P : Int) (i : Int) = if 128 ≤ c then entrepotref21_GetUint.l0 m s (n : Int) ((acc + (c % 128).toNat * P : Nat) : Int) (wrap64 ((P : Int) * 128)) ((i + 1 : Nat) : Int) else if c = 0 ∧ 0 < i then some (0, 0, 212) else some (((acc + (c % 128).toNat * P : Nat) : Int), ((n + i + 1 : Nat) : Int), 0) := by
 have ew : wrap64 ((n : Int) + (i : Int)) = ((n + i : Nat) : Int) := by unfold wrap64; omega
 simp only [entrepotref21_GetUint.l0]
 rw [ew, if_pos (by omega), if_neg (by omega), if_pos (by omega), if_pos (by omega), hb]
 have ec : wrap64 c = c := by unfold wrap64; omega
 have ei : wrap64 ((i : Int) + 1) = ((i + 1 : Nat) : Int) := by unfold wrap64; omega
 have en : wrap64 (((n + i : Nat) : Int) + 1) = ((n + i + 1 : Nat) : Int) := by unfold wrap64; omega
 rw [ec, ei, en]
 obtain ⟨q, hq⟩ : ∃ q : Nat, c % 128 = q := ⟨(c % 128).toNat, by omega⟩
 have hqq : (c % 128).toNat = q := by omega
 have hq2 : q < 128 := by omega
 rw [hqq]
 have hmul : q * P ≤ 127 * P := Nat.mul_le_mul_right _ (by omega)
 have ev : ∀ d : Int, d = (q : Int) → wrap64 ((acc : Int) + wrap64 (d * (P : Int))) = ((acc + q * P : Nat) : Int) := by
  intro d hd
  rw [hd, ← Int.natCast_mul]
  have hz : q * P ≤ 9151314442816847872 := Nat.le_trans hmul (by omega)
  clear hmul ew ec ei en
  generalize q * P = z at *
  rw [w64 (z : Int) (by omega) (by omega), w64 _ (by omega) (by omega)]; rfl
 by_cases g1 : 128 ≤ c
 ·rw [if_pos (show c ≥ 128 from g1), if_pos g1, ev _ (by unfold wrap64; omega)]
 ·rw [if_neg (show ¬ c ≥ 128 from g1), if_neg g1]
  by_cases g2 : c = 0
  ·rw [if_pos g2]
   by_cases g3 : 0 < i
   ·rw [if_pos (by omega), if_pos ⟨g2, g3⟩]
   ·rw [if_neg (by omega), if_neg (by omega), ev _ (by omega)]
  ·rw [if_neg g2, if_neg (by omega), ev _ (by omega)]
theorem refGetUint_l (s : ByteArray) (hs : s.size ≤ 140737488351232) (n : Nat) (j : Nat) : ∀ (i acc : Nat) (one : Int), i + j = 9 → n + i ≤ s.size → acc < 128 ^ i → (i < 9 → one = ((128 ^ i : Nat) : Int)) →
    Ev (fun k => entrepotref21_GetUint.l0 k s (n : Int) (acc : Int) one (i : Int)) (t3 (Pk.gA s.data.toList n i acc)) := by
  induction j with
  | zero =>
    intro i acc one hi _ _ _
    refine ⟨1, fun k hk => ?_⟩
    obtain ⟨m, rfl⟩ : ∃ m, k = m + 1 := ⟨k - 1, by omega⟩
    simp only [entrepotref21_GetUint.l0]
    rw [if_neg (by omega), Pk.gA, if_pos (by omega)]; rfl
  | succ j ih =>
    intro i acc one hi hni ha h1
    have e1 := h1 (by omega)
    subst e1
    by_cases hl : n + i < s.size
    · rw [gA_step s.data.toList n i acc _ rfl (by rw [size_len]; exact hl) (by omega)]
      have hst := acc_step acc i ((s.data.toList.getD (n + i) 0).toNat : Int) ha
      have hm : 128 ^ i ≤ 128 ^ 8 := Nat.pow_le_pow_right (by decide) (by omega)
      rw [pow8] at hm
      have hb := bt_get s (n + i)
      have hr := bt_range s ((n + i : Nat) : Int)
      rw [hb] at hr
      have key := refGetUint_round s n i acc (128 ^ i) hs (by omega) hm ha _ hb (by omega) (by omega) hl
      generalize ((s.data.toList.getD (n + i) 0).toNat : Int) = c at *
      by_cases g1 : 128 ≤ c
      · rw [if_pos g1]
        refine Ev.step (fun m => (key m).trans (if_pos g1)) ?_
        refine ih (i + 1) _ _ (by omega) (by omega) hst (fun h9 => ?_)
        have h7 : 128 ^ i ≤ 128 ^ 7 := Nat.pow_le_pow_right (by decide) (by omega)
        rw [show (128 : Nat) ^ 7 = 562949953421312 by decide +kernel] at h7
        rw [show (128 : Nat) ^ (i + 1) = 128 ^ i * 128 from Nat.pow_succ _ _]
        generalize 128 ^ i = y at *
        unfold wrap64; omega
      · refine ⟨1, fun k hk => ?_⟩
        obtain ⟨m, rfl⟩ : ∃ m, k = m + 1 := ⟨k - 1, by omega⟩
        refine (key m).trans ?_
        rw [if_neg g1, if_neg g1]
        split <;> rfl
    · refine ⟨1, fun k hk => ?_⟩
      obtain ⟨m, rfl⟩ : ∃ m, k = m + 1 := ⟨k - 1, by omega⟩
      rw [Pk.gA, if_neg (by omega), List.getElem?_eq_none (by rw [size_len]; omega)]
      simp only [entrepotref21_GetUint.l0]
      rw [show wrap64 ((n : Int) + (i : Int)) = ((n + i : Nat) : Int) by unfold wrap64; omega, if_pos (by omega), if_pos (by omega)]; rfl
theorem refGetUint (s : ByteArray) (n : Int) (hs : s.size ≤ 140737488351232) : Ev (fun k => entrepotref21_GetUint.f k s n) (t3 (Pk.getU s.data.toList n)) := by
 unfold Pk.getU
 rw [size_len]
 by_cases h0 : n < 0
 ·rw [if_pos (.inl h0)]
  refine ⟨1, fun k hk => ?_⟩
  obtain ⟨m, rfl⟩ : ∃ m, k = m + 1 := ⟨k - 1, by omega⟩
  show entrepotref21_GetUint.f (m + 1) s n = _; unfold entrepotref21_GetUint.f; rw [if_pos h0]; rfl
 ·by_cases h1 : (s.size : Int) < n
  ·rw [if_pos (.inr h1)]
   refine ⟨1, fun k hk => ?_⟩
   obtain ⟨m, rfl⟩ : ∃ m, k = m + 1 := ⟨k - 1, by omega⟩
   show entrepotref21_GetUint.f (m + 1) s n = _; unfold entrepotref21_GetUint.f; rw [if_neg h0]; simp only [entrepotref21_GetUint.j0]; rw [if_pos (by simpa using h1)]; rfl
  ·rw [if_neg (by omega)]
   obtain ⟨a, rfl⟩ := Int.eq_ofNat_of_zero_le (show 0 ≤ n by omega)
   rw [Int.toNat_natCast]
   have := refGetUint_l s hs a 9 0 0 1 (by omega) (by omega) (by decide) (fun _ => rfl)
   refine Ev.step (fun k => ?_) this
   show entrepotref21_GetUint.f (k + 1) s a = _; unfold entrepotref21_GetUint.f; rw [if_neg h0]; simp only [entrepotref21_GetUint.j0]; rw [if_neg (by simpa using h1)]; rfl
theorem refGetInt (s : ByteArray) (n : Int) (hs : s.size ≤ 140737488351232) : Ev (fun k => entrepotref21_GetInt.f k s n) (t3i (Pk.getI s.data.toList n)) := by
 refine Ev.bind (refGetUint s n hs) ?_
 have hx := getU_lt s.data.toList n
 refine ⟨0, fun k _ => ?_⟩
 by_cases h : (Pk.getU s.data.toList n).2.2 = 0
 ·rw [if_pos (show (t3 (Pk.getU s.data.toList n)).2.2 = 0 by show ((Pk.getU s.data.toList n).2.2 : Int) = 0; omega)]
  show _ = some (Pk.zag (Pk.getU s.data.toList n).1, ((Pk.getU s.data.toList n).2.1 : Int), ((Pk.getU s.data.toList n).2.2 : Int))
  rw [h]
  have e1 : (t3 (Pk.getU s.data.toList n)).1 = ((Pk.getU s.data.toList n).1 : Int) := rfl
  have e2 : (t3 (Pk.getU s.data.toList n)).2.1 = ((Pk.getU s.data.toList n).2.1 : Int) := rfl
  rw [e1, e2]
  generalize (Pk.getU s.data.toList n).1 = x at *
  rw [Int.tmod_eq_emod_of_nonneg (by omega), Int.tdiv_eq_ediv_of_nonneg (by omega)]
  unfold Pk.zag
  by_cases h2 : x % 2 = 1
  ·rw [if_pos (by omega), if_pos h2, w64 ((x : Int) / 2) (by omega) (by omega), w64 _ (by omega) (by omega)]; rfl
  ·rw [if_neg (by omega), if_neg h2, w64 ((x : Int) / 2) (by omega) (by omega)]; rfl
 ·rw [if_neg (show ¬ (t3 (Pk.getU s.data.toList n)).2.2 = 0 by show ¬ ((Pk.getU s.data.toList n).2.2 : Int) = 0; omega)]
  show some (0, 0, ((Pk.getU s.data.toList n).2.2 : Int)) = some (Pk.zag (Pk.getU s.data.toList n).1, ((Pk.getU s.data.toList n).2.1 : Int), ((Pk.getU s.data.toList n).2.2 : Int))
  rw [(hx.2.2.1 h).1, (hx.2.2.1 h).2]; rfl
theorem refGetText (s : ByteArray) (n : Int) (hs : s.size ≤ 140737488351232) : Ev (fun k => entrepotref21_GetText.f k s n) (t3t (Pk.getT s.data.toList n)) := by
 refine Ev.bind (refGetUint s n hs) ⟨0, fun k _ => ?_⟩
 have := getText s n hs
 unfold pack_GetText.f at this
 rw [getUint s n hs, Option.bind_some] at this
 exact this
theorem refOpened (s : ByteArray) (hs : s.size ≤ 140737488351232) : Ev (fun k => entrepotref21_Open.f k s) (t2t (Pk.opn s.data.toList)) := by
 unfold Pk.opn
 rw [size_len]
 by_cases h : s.size < 4
 ·refine ⟨0, fun k _ => ?_⟩
  show entrepotref21_Open.f k s = _
  unfold entrepotref21_Open.f
  rw [if_pos (by omega), if_pos h]; rfl
 ·obtain ⟨K, hK⟩ := refSealed (S (s.data.toList.take (s.size - 4))) (by rw [S_size, List.length_take]; omega)
  refine ⟨K, fun k hk => ?_⟩
  show entrepotref21_Open.f k s = _
  unfold entrepotref21_Open.f
  rw [w64 _ (by omega) (by omega)]
  rw [if_neg (by omega), if_neg h, if_pos (by omega), if_pos (by omega), show ((s.size : Int) - 4).toNat = s.size - 4 by omega, take_ext s]
  have hq : entrepotref21_Seal.f k (S (s.data.toList.take (s.size - 4))) = _ := hK k hk
  rw [hq, Option.bind_some, S_data, S_toList, ByteArray.toList_eq]
  by_cases e : Pk.shut (s.data.toList.take (s.size - 4)) = s.data.toList
  ·rw [if_pos e, if_neg (by simpa using e)]; rfl
  ·rw [if_neg e, if_pos e]; rfl
end Go.Proofs.YtofklpphalalhaaGreatDoor.Evs
end
section
namespace Go.Proofs.YtofklpphalalhaaGreatDoor
set_option linter.unusedVariables false
set_option linter.unusedSimpArgs false
open Go.RowKit Go.Proofs.YtofklpphalalhaaGreatDoor.PAll
namespace Rq
open Rr (St gi gu gt)
/-- The first error stays. -/
def fl (st : St) (at_ e : Int) : St := if st.c = 0 ∧ e ≠ 0 then ⟨st.p, at_, e⟩ else st
def tk (r : Int × Int) (st : St) : St := ⟨r.1, (fl st st.p r.2).a, (fl st st.p r.2).c⟩
def num (s : ByteArray) (st : St) : Int × St := if st.c = 0 then ((gi s st.p).1, tk (gi s st.p).2 st) else (0, st)
def text (s : ByteArray) (st : St) : ByteArray × St := if st.c = 0 then ((gt s st.p).1, tk (gt s st.p).2 st) else (⟨#[]⟩, st)
def lack (s : ByteArray) (r : Int × Int × Int) (st : St) : St := if (tk r.2 st).c = 0 ∧ (s.size : Int) - r.2.1 < r.1 then ⟨r.2.1, st.p, 211⟩ else tk r.2 st
def count (s : ByteArray) (st : St) : Int × St := if st.c = 0 then ((gu s st.p).1, lack s (gu s st.p) st) else (0, st)
def nums (s : ByteArray) : Nat → St → List Int × St
 | 0, st => ([], st)
 | m + 1, st => ((nums s m st).1 ++ [(num s (nums s m st).2).1], (num s (nums s m st).2).2)
def listN (s : ByteArray) : Nat → List Int → St → List Int × St
 | 0, l, st => (l, st)
 | n + 1, l, st => if st.c = 0 then listN s n (l ++ [(num s st).1]) (num s st).2 else (l, st)
def list (s : ByteArray) (st : St) : List Int × St := listN s (count s st).1.toNat [] (count s st).2
def nodesN (s : ByteArray) : Nat → List S71 → St → List S71 × St
 | 0, l, st => (l, st)
 | n + 1, l, st => if st.c = 0 then nodesN s n (l ++ [Rr.nodeOf (nums s 7 st).1]) (nums s 7 st).2 else (l, st)
def routesN (s : ByteArray) : Nat → List (List Int) → St → List (List Int) × St
 | 0, l, st => (l, st)
 | n + 1, l, st => if st.c = 0 then routesN s n (l ++ [(list s st).1]) (list s st).2 else (l, st)
def fin (s : ByteArray) (st : St) : St := if st.c = 0 ∧ st.p < (s.size : Int) then ⟨st.p, st.p, 4⟩ else st
def readT (s : ByteArray) (st : St) := text s st
def readH (s : ByteArray) (st : St) := nums s 5 (readT s st).2
def readC (s : ByteArray) (st : St) := count s (readH s st).2
def readN (s : ByteArray) (st : St) := nodesN s (readC s st).1.toNat [] (readC s st).2
def readM (s : ByteArray) (st : St) := list s (readN s st).2
def readE (s : ByteArray) (st : St) := fin s (readM s st).2
def readX (s : ByteArray) (st : St) : Cn.In := ⟨(readT s st).1, (readH s st).1.getD 0 0, (readH s st).1.getD 1 0, (readH s st).1.getD 2 0, (readH s st).1.getD 3 0, (readH s st).1.getD 4 0, (readN s st).1, (readM s st).1⟩
def planR (s : ByteArray) (st : St) := routesN s (count s st).1.toNat [] (count s st).2
def planE (s : ByteArray) (st : St) := fin s (planR s st).2
/-- The same, where nothing has failed; the same error, where something has. -/
def Eq (x y : St) : Prop := (x.c ≠ 0 ∧ y.c = x.c ∧ y.a = x.a) ∨ (x.c = 0 ∧ y = x)
def Eqv {α : Type} (x y : α × St) : Prop := (x.2.c ≠ 0 ∧ y.2.c = x.2.c ∧ y.2.a = x.2.a) ∨ (x.2.c = 0 ∧ y = x)
theorem Eqv.st {α : Type} {x y : α × St} (h : Eqv x y) : Eq x.2 y.2 := by
 rcases h with h | h
 ·exact .inl h
 ·exact .inr ⟨h.1, by rw [h.2]⟩
theorem Eq.bad {x y : St} (h : Eq x y) (hc : x.c ≠ 0) : y.c ≠ 0 := by
 rcases h with h | h
 ·rw [h.2.1]; exact hc
 ·exact absurd h.1 hc
theorem num_bad {s : ByteArray} {st : St} (h : st.c ≠ 0) : num s st = (0, st) := by unfold num; rw [if_neg h]
theorem nums_bad {s : ByteArray} {st : St} (h : st.c ≠ 0) : ∀ m, (nums s m st).2 = st
  | 0 => rfl
  | m + 1 => by
    have e := nums_bad h m (s := s)
    unfold nums
    rw [e, num_bad h]
theorem count_bad {s : ByteArray} {st : St} (h : st.c ≠ 0) : count s st = (0, st) := by unfold count; rw [if_neg h]
theorem listN_bad {s : ByteArray} {st : St} (h : st.c ≠ 0) (n : Nat) (l : List Int) : (listN s n l st).2 = st := by
 cases n with
 | zero => rfl
 | succ n => unfold listN; rw [if_neg h]
theorem list_bad {s : ByteArray} {st : St} (h : st.c ≠ 0) : (list s st).2 = st := by
 unfold list; rw [count_bad h]; exact listN_bad h _ _
theorem nodesN_bad {s : ByteArray} {st : St} (h : st.c ≠ 0) (n : Nat) (l : List S71) : (nodesN s n l st).2 = st := by
 cases n with
 | zero => rfl
 | succ n => unfold nodesN; rw [if_neg h]
theorem routesN_bad {s : ByteArray} {st : St} (h : st.c ≠ 0) (n : Nat) (l : List (List Int)) : (routesN s n l st).2 = st := by
 cases n with
 | zero => rfl
 | succ n => unfold routesN; rw [if_neg h]
theorem fin_bad {s : ByteArray} {st : St} (h : st.c ≠ 0) : fin s st = st := by unfold fin; rw [if_neg (fun h' => h h'.1)]
theorem tk_ok {st : St} {r : Int × Int} (h0 : st.c = 0) (h : r.2 = 0) : tk r st = ⟨r.1, st.a, st.c⟩ := by
 unfold tk fl; rw [if_neg (fun h' => h'.2 h)]
theorem tk_no {st : St} {r : Int × Int} (h0 : st.c = 0) (h : r.2 ≠ 0) : tk r st = ⟨r.1, st.p, r.2⟩ := by
 unfold tk fl; rw [if_pos ⟨h0, h⟩]
theorem num_eqv {s : ByteArray} {x y : St} (h : Eq x y) : Eqv (Rr.num s x) (num s y) := by
 rcases h with ⟨h0, h1, h2⟩ | ⟨h0, rfl⟩
 ·left
  rw [Rr.num_bad h0, num_bad (by rw [h1]; exact h0)]
  exact ⟨h0, h1, h2⟩
 ·unfold Rr.num Rr.number num
  rw [if_pos h0, if_pos h0]
  by_cases h1 : (gi s y.p).2.2 = 0
  ·rw [if_pos h1, tk_ok h0 h1]; exact .inr ⟨h0, rfl⟩
  ·rw [if_neg h1, tk_no h0 h1]; exact .inl ⟨h1, rfl, rfl⟩
theorem text_eqv {s : ByteArray} {x y : St} (h : Eq x y) : Eqv (Rr.text s x) (text s y) := by
 rcases h with ⟨h0, h1, h2⟩ | ⟨h0, rfl⟩
 ·left
  rw [Rr.text_bad h0]
  unfold text
  rw [if_neg (by rw [h1]; exact h0)]
  exact ⟨h0, h1, h2⟩
 ·unfold Rr.text text
  rw [if_pos h0, if_pos h0]
  by_cases h1 : (gt s y.p).2.2 = 0
  ·rw [if_pos h1, tk_ok h0 h1]; exact .inr ⟨h0, rfl⟩
  ·rw [if_neg h1, tk_no h0 h1]; exact .inl ⟨h1, rfl, rfl⟩
theorem count_eqv {s : ByteArray} {x y : St} (h : Eq x y) : Eqv (Rr.count s x) (count s y) := by
 rcases h with ⟨h0, h1, h2⟩ | ⟨h0, rfl⟩
 ·left
  rw [Rr.count_bad h0, count_bad (by rw [h1]; exact h0)]
  exact ⟨h0, h1, h2⟩
 ·unfold Rr.count Rr.number count lack
  rw [if_pos h0, if_pos h0]
  by_cases h1 : (gu s y.p).2.2 = 0
  ·rw [if_pos h1, tk_ok h0 h1]
   by_cases h2 : (s.size : Int) - (gu s y.p).2.1 < (gu s y.p).1
   ·rw [if_pos ⟨h0, h2⟩, if_pos ⟨h0, h2⟩]; exact .inl ⟨Rr.n211, rfl, rfl⟩
   ·rw [if_neg (fun h' => h2 h'.2), if_neg (fun h' => h2 h'.2)]; exact .inr ⟨h0, rfl⟩
  ·rw [if_neg h1, tk_no h0 h1, if_neg (fun h' => h1 h'.1), if_neg (fun h' => h1 h'.1)]; exact .inl ⟨h1, rfl, rfl⟩
theorem nums_eqv {s : ByteArray} {x y : St} (h : Eq x y) : ∀ m, Eqv (Rr.nums s m x) (nums s m y)
  | 0 => by
    rcases h with h | ⟨h0, rfl⟩
    · exact .inl h
    · exact .inr ⟨h0, rfl⟩
  | m + 1 => by
    have e := nums_eqv h m (s := s)
    unfold Rr.nums nums
    have e2 := num_eqv e.st (s := s)
    rcases e2 with e2 | ⟨h0, e2⟩
    · exact .inl e2
    · refine .inr ⟨h0, ?_⟩
      rcases e with e | ⟨_, e⟩
      · rw [Rr.num_bad e.1] at h0; exact absurd h0 e.1
      · rw [e2, e]
theorem listN_eqv {s : ByteArray} : ∀ (n : Nat) (l : List Int) {x y : St}, Eq x y → Eqv (Rr.listN s n l x) (listN s n l y)
  | 0, l, x, y, h => by
    rcases h with h | ⟨h0, rfl⟩
    · exact .inl h
    · exact .inr ⟨h0, rfl⟩
  | n + 1, l, x, y, h => by
    rcases h with ⟨h0, h1, h2⟩ | ⟨h0, rfl⟩
    · left
      rw [Rr.listN_bad h0, listN_bad (by rw [h1]; exact h0)]
      exact ⟨h0, h1, h2⟩
    · unfold Rr.listN listN
      rw [if_pos h0]
      have e := num_eqv (.inr ⟨h0, rfl⟩ : Eq y y) (s := s)
      rcases e with e | ⟨h1, e⟩
      · rw [if_neg e.1]; left; rw [listN_bad (by rw [e.2.1]; exact e.1)]; exact e
      · rw [if_pos h1, e]; exact listN_eqv n _ (.inr ⟨h1, rfl⟩)
theorem list_eqv {s : ByteArray} {x y : St} (h : Eq x y) : Eqv (Rr.list s x) (list s y) := by
 unfold Rr.list list
 rcases count_eqv h (s := s) with e | ⟨h0, e⟩
 ·left
  rw [Rr.listN_bad e.1, listN_bad (by rw [e.2.1]; exact e.1)]; exact e
 ·rw [e]; exact listN_eqv _ _ (.inr ⟨h0, rfl⟩)
theorem nodesN_eqv {s : ByteArray} : ∀ (n : Nat) (l : List S71) {x y : St}, Eq x y → Eqv (Rr.nodesN s n l x) (nodesN s n l y)
  | 0, l, x, y, h => by
    rcases h with h | ⟨h0, rfl⟩
    · exact .inl h
    · exact .inr ⟨h0, rfl⟩
  | n + 1, l, x, y, h => by
    rcases h with ⟨h0, h1, h2⟩ | ⟨h0, rfl⟩
    · left
      rw [Rr.nodesN_bad h0, nodesN_bad (by rw [h1]; exact h0)]
      exact ⟨h0, h1, h2⟩
    · unfold Rr.nodesN nodesN
      rw [if_pos h0]
      have e := nums_eqv (.inr ⟨h0, rfl⟩ : Eq y y) (s := s) 7
      rcases e with e | ⟨h1, e⟩
      · rw [if_neg e.1]; left; rw [nodesN_bad (by rw [e.2.1]; exact e.1)]; exact e
      · rw [if_pos h1, e]; exact nodesN_eqv n _ (.inr ⟨h1, rfl⟩)
theorem routesN_eqv {s : ByteArray} : ∀ (n : Nat) (l : List (List Int)) {x y : St}, Eq x y → Eqv (Rr.routesN s n l x) (routesN s n l y)
  | 0, l, x, y, h => by
    rcases h with h | ⟨h0, rfl⟩
    · exact .inl h
    · exact .inr ⟨h0, rfl⟩
  | n + 1, l, x, y, h => by
    rcases h with ⟨h0, h1, h2⟩ | ⟨h0, rfl⟩
    · left
      rw [Rr.routesN_bad h0, routesN_bad (by rw [h1]; exact h0)]
      exact ⟨h0, h1, h2⟩
    · unfold Rr.routesN routesN
      rw [if_pos h0]
      have e := list_eqv (.inr ⟨h0, rfl⟩ : Eq y y) (s := s)
      rcases e with e | ⟨h1, e⟩
      · rw [if_neg e.1]; left; rw [routesN_bad (by rw [e.2.1]; exact e.1)]; exact e
      · rw [if_pos h1, e]; exact routesN_eqv n _ (.inr ⟨h1, rfl⟩)
theorem fin_eq {s : ByteArray} {x y : St} (h : Eq x y) : Eq (Rr.fin s x) (fin s y) := by
 rcases h with ⟨h0, h1, h2⟩ | ⟨h0, rfl⟩
 ·rw [Rr.fin_bad h0, fin_bad (by rw [h1]; exact h0)]; exact .inl ⟨h0, h1, h2⟩
 ·unfold Rr.fin fin
  by_cases h1 : y.p < (s.size : Int)
  ·rw [if_pos ⟨h0, by omega⟩, if_pos ⟨h0, h1⟩]; exact .inl ⟨Rr.n4, rfl, rfl⟩
  ·rw [if_neg (fun h' => h1 (by omega)), if_neg (fun h' => h1 h'.2)]; exact .inr ⟨h0, rfl⟩
theorem fin_c {s : ByteArray} {x : St} (h : (Rr.fin s x).c = 0) : x.c = 0 := by
 by_cases h0 : x.c = 0
 ·exact h0
 ·rw [Rr.fin_bad h0] at h; exact absurd h h0
/-- The document's reader reads what packet's one does. -/
theorem read_eq (s : ByteArray) (st : St) (h : st.c = 0 ∨ True) : Eq (Rr.readE s st) (readE s st) ∧ ((Rr.readE s st).c = 0 → readX s st = Rr.readX s st) := by
 have e0 : Eq st st := by
  by_cases h0 : st.c = 0
  ·exact .inr ⟨h0, rfl⟩
  ·exact .inl ⟨h0, rfl, rfl⟩
 have e1 : Eqv (Rr.readT s st) (readT s st) := text_eqv e0
 have e2 : Eqv (Rr.readH s st) (readH s st) := nums_eqv e1.st 5
 have e3 : Eqv (Rr.readC s st) (readC s st) := count_eqv e2.st
 have e4 : Eqv (Rr.readN s st) (readN s st) := by
  unfold Rr.readN readN
  rcases e3 with e | ⟨h0, e⟩
  ·left
   rw [Rr.nodesN_bad e.1, nodesN_bad (by rw [e.2.1]; exact e.1)]; exact e
  ·rw [e]; exact nodesN_eqv _ _ (.inr ⟨h0, rfl⟩)
 have e5 : Eqv (Rr.readM s st) (readM s st) := list_eqv e4.st
 refine ⟨fin_eq e5.st, fun hc => ?_⟩
 have c5 : (Rr.readM s st).2.c = 0 := fin_c hc
 have c4 : (Rr.readN s st).2.c = 0 := by
  by_cases h0 : (Rr.readN s st).2.c = 0
  ·exact h0
  ·unfold Rr.readM at c5; rw [Rr.list_bad h0] at c5; exact absurd c5 h0
 have c3 : (Rr.readC s st).2.c = 0 := by
  by_cases h0 : (Rr.readC s st).2.c = 0
  ·exact h0
  ·unfold Rr.readN at c4; rw [Rr.nodesN_bad h0] at c4; exact absurd c4 h0
 have c2 : (Rr.readH s st).2.c = 0 := by
  by_cases h0 : (Rr.readH s st).2.c = 0
  ·exact h0
  ·unfold Rr.readC at c3; rw [Rr.count_bad h0] at c3; exact absurd c3 h0
 have c1 : (Rr.readT s st).2.c = 0 := by
  by_cases h0 : (Rr.readT s st).2.c = 0
  ·exact h0
  ·unfold Rr.readH at c2; rw [Rr.nums_bad h0] at c2; exact absurd c2 h0
 have get : ∀ {α : Type} {x y : α × St}, Eqv x y → x.2.c = 0 → y = x := fun h hc => by
  rcases h with h | h
  ·exact absurd hc h.1
  ·exact h.2
 unfold readX Rr.readX
 rw [get e1 c1, get e2 c2, get e4 c4, get e5 c5]
theorem plan_eq (s : ByteArray) (st : St) : Eq (Rr.planE s st) (planE s st) ∧ ((Rr.planE s st).c = 0 → (planR s st).1 = (Rr.planR s st).1) := by
 have e0 : Eq st st := by
  by_cases h0 : st.c = 0
  ·exact .inr ⟨h0, rfl⟩
  ·exact .inl ⟨h0, rfl, rfl⟩
 have e1 : Eqv (Rr.planR s st) (planR s st) := by
  unfold Rr.planR planR
  rcases count_eqv e0 (s := s) with e | ⟨h0, e⟩
  ·left
   rw [Rr.routesN_bad e.1, routesN_bad (by rw [e.2.1]; exact e.1)]; exact e
  ·rw [e]; exact routesN_eqv _ _ (.inr ⟨h0, rfl⟩)
 refine ⟨fin_eq e1.st, fun hc => ?_⟩
 have c5 : (Rr.planR s st).2.c = 0 := fin_c hc
 rcases e1 with h | h
 ·exact absurd c5 h.1
 ·rw [h.2]
end Rq
namespace Rr
/-! Where nothing has failed no place of an error is known. -/
def Z (st : St) : Prop := st.c = 0 → st.a = 0
theorem Z.num {s : ByteArray} {st : St} (h : Z st) : Z (num s st).2 := by
 unfold Rr.num number
 split
 ·rename_i h0
  split
  ·exact fun _ => h h0
  ·rename_i h1; exact fun hc => absurd hc h1
 ·exact h
theorem Z.nums {s : ByteArray} {st : St} (h : Z st) : ∀ m, Z (nums s m st).2
 | 0 => h
 | m + 1 => (Z.nums h m).num
theorem Z.count {s : ByteArray} {st : St} (h : Z st) : Z (count s st).2 := by
 have h1 : Z (number (gu s) st).2 := by
  unfold number
  split
  ·rename_i h0
   split
   ·exact fun _ => h h0
   ·rename_i h1; exact fun hc => absurd hc h1
  ·exact h
 unfold Rr.count
 split
 ·exact fun hc => absurd hc n211
 ·exact h1
theorem Z.listN {s : ByteArray} : ∀ (n : Nat) (l : List Int) {st : St}, Z st → Z (listN s n l st).2
  | 0, _, _, h => h
  | n + 1, l, st, h => by
    unfold Rr.listN
    split
    · exact Z.listN n _ h.num
    · exact h.num
theorem Z.list {s : ByteArray} {st : St} (h : Z st) : Z (list s st).2 := Z.listN _ _ h.count
theorem Z.routesN {s : ByteArray} : ∀ (n : Nat) (l : List (List Int)) {st : St}, Z st → Z (routesN s n l st).2
  | 0, _, _, h => h
  | n + 1, l, st, h => by
    unfold Rr.routesN
    split
    · exact Z.routesN n _ h.list
    · exact h.list
theorem Z.fin {s : ByteArray} {st : St} (h : Z st) : Z (fin s st) := by
 unfold Rr.fin
 split
 ·exact fun hc => absurd hc n4
 ·exact h
theorem Z.opened (s : ByteArray) (k : UInt8) : Z (opened s k) := by
 unfold Rr.opened
 split
 ·exact fun hc => absurd hc n211
 ·split
  ·rename_i h; exact fun hc => absurd hc (by have h' : opE s ≠ 0 := h; show ((opE s : Nat) : Int) ≠ 0; omega)
  ·split
   ·exact fun _ => rfl
   ·exact fun hc => absurd hc (by decide)
theorem Z.planE {s : ByteArray} {st : St} (h : Z st) : Z (planE s st) := (Z.routesN _ _ h.count).fin
end Rr
end Go.Proofs.YtofklpphalalhaaGreatDoor
end
section
namespace Go.Proofs.YtofklpphalalhaaGreatDoor
set_option linter.unusedVariables false
set_option linter.unusedSimpArgs false
open Go.RowKit Go.Proofs.YtofklpphalalhaaGreatDoor.PAll Go.Proofs.YtofklpphalalhaaGreatDoorW.PrintWords Go.Proofs.YtofklpphalalhaaGreatDoorW.PrintLast Go.Proofs.YtofklpphalalhaaGreatDoorW.PrintMore
/-- The document's reader lies in block g. -/
def RQ (w0 w : World) (g : Nat) (s : ByteArray) (st : Rr.St) : Prop := IsS179 w0 w g s st.p st.a st.c ∧ Below w0.heap.size w0 w
namespace Rq
open Rr (St gi gu gt)
theorem fail_f (s : ByteArray) (st : St) (a e : Int) : entrepotref22_reader_fail.f s st.p st.a st.c a e = some (s, (fl st a e).p, (fl st a e).a, (fl st a e).c) := by
 unfold entrepotref22_reader_fail.f fl
 by_cases h : st.c = 0
 ·by_cases h1 : e = 0
  ·rw [if_pos h, if_pos h1, if_neg (fun h' => h'.2 h1)]
  ·rw [if_pos h, if_neg h1, if_pos ⟨h, h1⟩]
 ·rw [if_neg h, if_neg (fun h' => h h'.1)]
theorem num_f (s : ByteArray) (hs : s.size ≤ 140737488351232) (st : St) : Ev (fun k => entrepotref22_reader_num.f k s st.p st.a st.c) ((num s st).1, s, (num s st).2.p, (num s st).2.a, (num s st).2.c) := by
 obtain ⟨K, hK⟩ := Evs.refGetInt s st.p hs
 refine ⟨K, fun k hk => ?_⟩
 show entrepotref22_reader_num.f k s st.p st.a st.c = _
 unfold entrepotref22_reader_num.f entrepotref22_reader_fine.f num
 simp only [Option.bind_some]
 by_cases h : st.c = 0
 ·have hb : (st.c == 0) = true := by simpa using h
  rw [if_pos hb, if_pos h]
  have e : entrepotref21_GetInt.f k s st.p = some (gi s st.p) := hK k hk
  rw [e]
  simp only [Option.bind_some]
  rw [fail_f]
  rfl
 ·have hb : ¬ (st.c == 0) = true := by simpa using h
  rw [if_neg hb, if_neg h]
theorem text_f (s : ByteArray) (hs : s.size ≤ 140737488351232) (st : St) : Ev (fun k => entrepotref22_reader_text.f k s st.p st.a st.c) ((text s st).1, s, (text s st).2.p, (text s st).2.a, (text s st).2.c) := by
 obtain ⟨K, hK⟩ := Evs.refGetText s st.p hs
 refine ⟨K, fun k hk => ?_⟩
 show entrepotref22_reader_text.f k s st.p st.a st.c = _
 unfold entrepotref22_reader_text.f entrepotref22_reader_fine.f text
 simp only [Option.bind_some]
 by_cases h : st.c = 0
 ·have hb : (st.c == 0) = true := by simpa using h
  rw [if_pos hb, if_pos h]
  have e : entrepotref21_GetText.f k s st.p = some (gt s st.p) := hK k hk
  rw [e]
  simp only [Option.bind_some]
  rw [fail_f]
  rfl
 ·have hb : ¬ (st.c == 0) = true := by simpa using h
  rw [if_neg hb, if_neg h]
theorem gu_next (s : ByteArray) (p : Int) : 0 ≤ (gu s p).2.1 ∧ (gu s p).2.1 ≤ (p.toNat : Int) + 9 := by
 have := (Evs.getU_lt s.data.toList p).2.1
 show (0 : Int) ≤ ((Pk.getU s.data.toList p).2.1 : Nat) ∧ (((Pk.getU s.data.toList p).2.1 : Nat) : Int) ≤ _
 omega
theorem count_f (s : ByteArray) (hs : s.size ≤ 140737488351232) (st : St) (hp : st.p ≤ 4611686018427387904) : Ev (fun k => entrepotref22_reader_count.f k s st.p st.a st.c) ((count s st).1, s, (count s st).2.p, (count s st).2.a, (count s st).2.c) := by
 obtain ⟨K, hK⟩ := Evs.refGetUint s st.p hs
 refine ⟨K, fun k hk => ?_⟩
 show entrepotref22_reader_count.f k s st.p st.a st.c = _
 unfold entrepotref22_reader_count.f entrepotref22_reader_fine.f count
 simp only [Option.bind_some]
 by_cases h : st.c = 0
 ·have hb : (st.c == 0) = true := by simpa using h
  rw [if_pos hb, if_pos h]
  have e : entrepotref21_GetUint.f k s st.p = some (gu s st.p) := hK k hk
  have hn := gu_next s st.p
  have hw : wrap64 ((s.size : Int) - (gu s st.p).2.1) = (s.size : Int) - (gu s st.p).2.1 := Evs.w64 _ (by omega) (by omega)
  rw [e]
  simp only [Option.bind_some]
  rw [fail_f]
  simp only [Option.bind_some]
  rw [hw]
  unfold lack
  have ec : (tk (gu s st.p).2 st).c = (fl st st.p (gu s st.p).2.2).c := rfl
  have ea : (tk (gu s st.p).2 st).a = (fl st st.p (gu s st.p).2.2).a := rfl
  rw [ec]
  have epp : (fl st st.p (gu s st.p).2.2).p = st.p := by unfold fl; split <;> rfl
  by_cases h1 : (fl st st.p (gu s st.p).2.2).c = 0
  ·have hb1 : ((fl st st.p (gu s st.p).2.2).c == 0) = true := by simpa using h1
   rw [if_pos hb1]
   by_cases h2 : (s.size : Int) - (gu s st.p).2.1 < (gu s st.p).1
   ·rw [if_pos (show (gu s st.p).1 > (s.size : Int) - (gu s st.p).2.1 from h2), if_pos ⟨h1, h2⟩]
    rw [fail_f s (fl st st.p (gu s st.p).2.2)]
    simp only [Option.bind_some]
    have e3 : fl (fl st st.p (gu s st.p).2.2) (fl st st.p (gu s st.p).2.2).p 211 = ⟨st.p, st.p, 211⟩ := by
     rw [epp]
     conv => lhs; unfold fl
     rw [if_pos ⟨h1, by decide⟩]
     have : (if st.c = 0 ∧ (gu s st.p).2.2 ≠ 0 then (⟨st.p, st.p, (gu s st.p).2.2⟩ : St) else st).p = st.p := by split <;> rfl
     rw [this]
    rw [e3]
   ·rw [if_neg (show ¬ (gu s st.p).1 > (s.size : Int) - (gu s st.p).2.1 from h2), if_neg (fun h' => h2 h'.2)]
    rfl
  ·have hb1 : ¬ ((fl st st.p (gu s st.p).2.2).c == 0) = true := by simpa using h1
   rw [if_neg hb1, if_neg (fun h' => h1 h'.1)]
   rfl
 ·have hb : ¬ (st.c == 0) = true := by simpa using h
  rw [if_neg hb, if_neg h]
def opened (s : ByteArray) (kind : UInt8) : St := Rr.opened s kind
end Rq
section
variable {w0 w w' : World} {g : Nat} {s : ByteArray} {st : Rr.St}
theorem RQ.is (h : RQ w0 w g s st) : IsS179 w0 w g s st.p st.a st.c := And.left h
theorem RQ.bl (h : RQ w0 w g s st) : Below w0.heap.size w0 w := And.right h
theorem RQ.blk (h : RQ w0 w g s st) : w.heap[g]? = some (.cells #[.string s, .int .i64 st.p, .int .i64 st.a, .int .i64 st.c] 179 (0, 0)) := h.is.1
theorem RQ.below (h : RQ w0 w g s st) (hb : Below w.heap.size w w') : RQ w0 w' g s st := ⟨⟨(hb.block g (Array.getElem?_eq_some_iff.1 h.blk).1).trans h.blk, h.is.2⟩, h.bl.trans (hb.mono h.bl.size)⟩
theorem RQ.cells (h : RQ w0 w g s st) : w.cell? ⟨g, 0, none⟩ = some (.string s) ∧ w.cell? ⟨g, 1, none⟩ = some (.int .i64 st.p) ∧ w.cell? ⟨g, 2, none⟩ = some (.int .i64 st.a) ∧ w.cell? ⟨g, 3, none⟩ = some (.int .i64 st.c) := by
 refine ⟨?_, ?_, ?_, ?_⟩ <;> (rw [Lib.cell_of_heap h.blk]; rfl)
theorem RQ.fail (h : RQ w0 w g s st) (a c : Int) : Calls Tryz.prog 174 #[.pointer (some ⟨g, 0, none⟩), .int .i64 a, .int .i64 c] w fun e w' => e = .returned (.tuple #[]) ∧ RQ w0 w' g s (Rq.fl st a c) ∧ KeepBut w w' g none :=
 (entrepotref22_reader_fail.calls g s st.p st.a st.c a c s _ _ _ w0 w h.is h.bl (Rq.fail_f s st a c)).mono fun e w' ⟨h1, h2, h3, h4⟩ => ⟨h1, ⟨h2, h3⟩, h4⟩
theorem RQ.fine (h : RQ w0 w g s st) : Calls Tryz.prog 127 #[.pointer (some ⟨g, 0, none⟩)] w fun e w' => e = .returned (.bool (st.c == 0)) ∧ RQ w0 w' g s st ∧ KeepBut w w' g none :=
 (entrepotref22_reader_fine.calls g s st.p st.a st.c _ s st.p st.a st.c w0 w h.is h.bl rfl).mono fun e w' ⟨h1, h2, h3, h4⟩ => ⟨h1, ⟨h2, h3⟩, h4⟩
theorem RQ.num (h : RQ w0 w g s st) (hs : s.size ≤ 140737488351232) : Calls Tryz.prog 125 #[.pointer (some ⟨g, 0, none⟩)] w fun e w' => e = .returned (.int .i64 (Rq.num s st).1) ∧ RQ w0 w' g s (Rq.num s st).2 ∧ KeepBut w w' g none := by
 obtain ⟨k, hk⟩ := (Rq.num_f s hs st).rounds
 exact (entrepotref22_reader_num.calls k g s st.p st.a st.c _ s _ _ _ w0 w h.is h.bl hk).mono fun e w' ⟨h1, h2, h3, h4⟩ => ⟨h1, ⟨h2, h3⟩, h4⟩
theorem RQ.text (h : RQ w0 w g s st) (hs : s.size ≤ 140737488351232) : Calls Tryz.prog 124 #[.pointer (some ⟨g, 0, none⟩)] w fun e w' => e = .returned (.string (Rq.text s st).1) ∧ RQ w0 w' g s (Rq.text s st).2 ∧ KeepBut w w' g none := by
 obtain ⟨k, hk⟩ := (Rq.text_f s hs st).rounds
 exact (entrepotref22_reader_text.calls k g s st.p st.a st.c _ s _ _ _ w0 w h.is h.bl hk).mono fun e w' ⟨h1, h2, h3, h4⟩ => ⟨h1, ⟨h2, h3⟩, h4⟩
theorem RQ.count (h : RQ w0 w g s st) (hs : s.size ≤ 140737488351232) (hp : st.p ≤ 4611686018427387904) : Calls Tryz.prog 126 #[.pointer (some ⟨g, 0, none⟩)] w fun e w' => e = .returned (.int .i64 (Rq.count s st).1) ∧ RQ w0 w' g s (Rq.count s st).2 ∧ KeepBut w w' g none := by
 obtain ⟨k, hk⟩ := (Rq.count_f s hs st hp).rounds
 exact (entrepotref22_reader_count.calls k g s st.p st.a st.c _ s _ _ _ w0 w h.is h.bl hk).mono fun e w' ⟨h1, h2, h3, h4⟩ => ⟨h1, ⟨h2, h3⟩, h4⟩
end
end Go.Proofs.YtofklpphalalhaaGreatDoor
end
