/- Texts of this claim, joined: RfA, GivenRC, GivenL. Each as it was, cut to what the claim uses. Conditions: each theorem's own. -/
import Derived.Test.YtofklpphalalhaaGreatDoorUhRcW
import Derived.Test.YtofklpphalalhaaGreatDoorUhJ16
import Derived.Test.YtofklpphalalhaaGreatDoorUhJ1
import Derived.Test.YtofklpphalalhaaGreatDoorUhJ8
import Derived.Test.YtofklpphalalhaaGreatDoorUhJ10
section
namespace Go.Proofs.YtofklpphalalhaaGreatDoor
set_option linter.unusedVariables false
set_option linter.unusedSimpArgs false
open Go.RowKit Go.Proofs.YtofklpphalalhaaGreatDoor.PAll Go.Proofs.YtofklpphalalhaaGreatDoorW.PrintWords Go.Proofs.YtofklpphalalhaaGreatDoorW.PrintLast Go.Proofs.YtofklpphalalhaaGreatDoorW.PrintMore
def rn (d : S71) : S128 := ⟨d.f0, d.f1, d.f2, d.f3, d.f4, d.f5, d.f6⟩
def InI (n : Int) : Prop := -9223372036854775808 ≤ n ∧ n ≤ 9223372036854775807
instance (n : Int) : Decidable (InI n) := by unfold InI; infer_instance
def NodeOk (d : S71) : Prop := InI d.f0 ∧ InI d.f1 ∧ InI d.f2 ∧ InI d.f3 ∧ InI d.f4 ∧ InI d.f5 ∧ InI d.f6
instance (d : S71) : Decidable (NodeOk d) := by unfold NodeOk; infer_instance
theorem or_zero (a b : Int) (ha : InI a) (hb : InI b) : (bits .or .i64 a b == 0) = (a == 0 && b == 0) := by
 unfold InI at ha hb
 rw [Bool.eq_iff_iff]
 simp only [beq_iff_eq, Bool.and_eq_true]
 constructor
 ·intro h
  have h' : IntKind.i64.wrap ((BitVec.ofInt 64 a ||| BitVec.ofInt 64 b).toNat : Int) = 0 := h
  rw [IntKind.wrap_i64] at h'
  have hl := (BitVec.ofInt 64 a ||| BitVec.ofInt 64 b).isLt
  have h0 : (BitVec.ofInt 64 a ||| BitVec.ofInt 64 b).toNat = 0 := by
   generalize (BitVec.ofInt 64 a ||| BitVec.ofInt 64 b).toNat = z at *
   simp only [Nat.reducePow] at hl
   omega
  rw [BitVec.toNat_or, Nat.or_eq_zero_iff] at h0
  have ea := Evs.ofInt_nat a
  have eb := Evs.ofInt_nat b
  rw [h0.1] at ea
  rw [h0.2] at eb
  omega
 ·rintro ⟨rfl, rfl⟩; decide
theorem rd_rn (l : List S71) (i : Nat) (h : i < l.length) : rd_T128 (l.map rn) (i : Int) = rn (rd_T71 l i) := by
 unfold rd_T128 rd_T71
 simp only [Int.toNat_natCast, List.getD_eq_getElem?_getD, List.getElem?_map, List.getElem?_eq_getElem h]; rfl
theorem signedF (n : Int) : entrepotref08_signed.f n = some (Cn.sgn n) := by
 unfold entrepotref08_signed.f Cn.sgn Cn.btw
 split <;> (simp only [Option.some.injEq]; first | (rw [decide_eq_decide]; omega) | (symm; rw [decide_eq_false_iff_not]; omega))
theorem numberF (n : Int) : entrepotref08_number.f n = some (Cn.num n) := by
 unfold entrepotref08_number.f Cn.num Cn.btw
 split <;> (simp only [Option.some.injEq]; first | (rw [decide_eq_decide]; omega) | (symm; rw [decide_eq_false_iff_not]; omega))
theorem knownF (n : Int) : entrepotref06_Known.f n = some (Cn.known n) := by
 unfold entrepotref06_Known.f Cn.known Cn.btw
 split <;> (simp only [Option.some.injEq]; first | (rw [decide_eq_decide]; omega) | (symm; rw [decide_eq_false_iff_not]; omega))
theorem sgn_in {n : Int} (h : Cn.sgn n = true) : InI n := by
 have := of_decide_eq_true (show decide ((-100000000 : Int) ≤ n ∧ n ≤ 100000000) = true from h)
 unfold InI; omega
section
variable {x : Cn.In} {i : Nat}
theorem coordF (hi : i < x.nodes.length) : entrepotref08_coord.f x.nm x.kind x.metric x.scale x.cap x.fleet (x.nodes.map rn) x.mx (i : Int) = some (Cn.coord x (rd_T71 x.nodes i)) := by
  unfold entrepotref08_coord.f
  rw [if_pos (by omega), if_pos (by rw [List.length_map]; omega), rd_rn _ _ hi]
  obtain ⟨d, hd⟩ : ∃ d, rd_T71 x.nodes i = d := ⟨_, rfl⟩
  rw [hd, show (rn d).f0 = d.f0 from rfl, show (rn d).f1 = d.f1 from rfl, signedF, signedF]
  unfold Cn.coord
  cases h0 : Cn.sgn d.f0 with
  | false => simp
  | true =>
    cases h1 : Cn.sgn d.f1 with
    | false => simp
    | true =>
      rw [or_zero _ _ (sgn_in h0) (sgn_in h1)]
      by_cases hm : x.metric = 0 <;> by_cases h2 : d.f0 = 0 <;> simp [hm, h2]
theorem demandF (hi : i < x.nodes.length) : entrepotref08_demand.f 1 x.nm x.kind x.metric x.scale x.cap x.fleet (x.nodes.map rn) x.mx (i : Int) = some (Cn.demand x (rd_T71 x.nodes i) i) := by
 unfold entrepotref08_demand.f
 rw [if_pos (by omega), if_pos (by rw [List.length_map]; omega), rd_rn _ _ hi]
 obtain ⟨d, hd⟩ : ∃ d, rd_T71 x.nodes i = d := ⟨_, rfl⟩
 rw [hd, show (rn d).f2 = d.f2 from rfl]
 simp only [entrepotref08_demand.j0]
 unfold Cn.demand
 rw [signedF, numberF]
 have hns : Cn.num d.f2 = true → Cn.sgn d.f2 = true := by
  unfold Cn.num Cn.sgn Cn.btw; simp; omega
 by_cases hk : x.kind = 1
 ·simp [hk]
 ·by_cases h0 : (i : Int) = 0
  ·simp [hk, h0]
  ·have e0 : ((i : Int) == 0) = false := by simpa using h0
   rw [if_neg hk, e0, if_neg (show ¬ (false = true) by decide), if_neg (show ¬ (x.kind = 1 ∨ (i : Int) = 0) by omega)]
   cases hn : Cn.num d.f2 with
   | true => rw [hn] at hns; simp [hns]
   | false => by_cases h4 : x.kind = 4 <;> simp [h4]
theorem windowF (hi : i < x.nodes.length) (ho : NodeOk (rd_T71 x.nodes i)) : entrepotref08_window.f 1 x.nm x.kind x.metric x.scale x.cap x.fleet (x.nodes.map rn) x.mx (i : Int) = some (Cn.window x (rd_T71 x.nodes i)) := by
 unfold entrepotref08_window.f
 rw [if_pos (by omega), if_pos (by rw [List.length_map]; omega), rd_rn _ _ hi]
 obtain ⟨d, hd⟩ : ∃ d, rd_T71 x.nodes i = d := ⟨_, rfl⟩
 rw [hd] at ho ⊢
 simp only [entrepotref08_window.j0]
 unfold Cn.window Cn.timed
 rw [show (rn d).f3 = d.f3 from rfl, show (rn d).f4 = d.f4 from rfl, numberF, numberF, or_zero _ _ ho.2.2.2.1 ho.2.2.2.2.1]
 by_cases h1 : x.kind = 1
 ·by_cases h3 : d.f3 = 0 <;> simp [h1, h3]
 ·by_cases h2 : x.kind = 2
  ·by_cases h3 : d.f3 = 0 <;> simp [h1, h2, h3]
  ·cases h3 : Cn.num d.f3 <;> cases h4 : Cn.num d.f4 <;> simp [h1, h2]
theorem serviceF (hi : i < x.nodes.length) : entrepotref08_service.f x.nm x.kind x.metric x.scale x.cap x.fleet (x.nodes.map rn) x.mx (i : Int) = some (Cn.service x (rd_T71 x.nodes i)) := by
 unfold entrepotref08_service.f
 rw [if_pos (by omega), if_pos (by rw [List.length_map]; omega), rd_rn _ _ hi]
 obtain ⟨d, hd⟩ : ∃ d, rd_T71 x.nodes i = d := ⟨_, rfl⟩
 rw [hd, show (rn d).f5 = d.f5 from rfl, numberF]
 unfold Cn.service Cn.timed
 by_cases h1 : x.kind = 1
 ·simp [h1]
 ·by_cases h2 : x.kind = 2 <;> simp [h1, h2]
theorem mateF (hi : i < x.nodes.length) : entrepotref08_mate.f 1 x.nm x.kind x.metric x.scale x.cap x.fleet (x.nodes.map rn) x.mx (i : Int) = some (Cn.mate x (rd_T71 x.nodes i) i) := by
 unfold entrepotref08_mate.f
 rw [if_pos (by omega), if_pos (by rw [List.length_map]; omega), rd_rn _ _ hi]
 obtain ⟨d, hd⟩ : ∃ d, rd_T71 x.nodes i = d := ⟨_, rfl⟩
 rw [hd, show (rn d).f6 = d.f6 from rfl]
 simp only [entrepotref08_mate.j0]
 unfold Cn.mate
 by_cases h4 : x.kind = 4
 ·rw [if_pos h4]
  by_cases h0 : (i : Int) = 0
  ·simp [h0]
  ·have e0 : ((i : Int) == 0) = false := by simpa using h0
   rw [e0, if_neg (by simp), if_neg (show ¬ (x.kind ≠ 4 ∨ (i : Int) = 0) by omega)]
   rw [List.length_map]
   by_cases h1 : d.f6 < 1
   ·rw [if_pos h1, if_pos (by omega)]
   ·rw [if_neg h1]
    by_cases h2 : d.f6 ≥ (x.nodes.length : Int)
    ·rw [if_pos h2, if_pos (by omega)]
    ·rw [if_neg h2]
     by_cases h3 : d.f6 = (i : Int)
     ·rw [if_pos h3, if_pos (Or.inr h3)]
     ·rw [if_neg h3, if_pos (show 0 ≤ d.f6 by omega), if_pos (show d.f6 < (x.nodes.length : Int) by omega), if_neg (show ¬ (¬ (1 ≤ d.f6 ∧ d.f6 ≤ (x.nodes.length : Int) - 1) ∨ d.f6 = (i : Int)) by omega)]
      obtain ⟨m, hm⟩ : ∃ m : Nat, d.f6 = m := ⟨d.f6.toNat, by omega⟩
      unfold Cn.nodeAt
      rw [hm, rd_rn _ _ (by omega), rd_rn _ _ hi, hd]
      obtain ⟨e, he⟩ : ∃ e, rd_T71 x.nodes m = e := ⟨_, rfl⟩
      rw [he, show (rn e).f6 = e.f6 from rfl, show (rn e).f2 = e.f2 from rfl, show (rn d).f2 = d.f2 from rfl]
      by_cases h5 : e.f6 = (i : Int)
      ·rw [if_pos h5, if_pos (by omega), if_pos (by omega)]
       by_cases h6 : d.f2 = 0 <;> simp [h5, h6]
      ·rw [if_neg h5]; simp [h5]
 ·rw [if_neg h4, if_pos trivial, if_pos (Or.inl h4)]
end
def dz (n i : Nat) (mx : List Int) : Bool := (List.range n).all fun q => decide (q * n + q < i) || mx.getD (q * n + q) 0 == 0
theorem dz_iff (n i : Nat) (mx : List Int) : dz n i mx = true ↔ ∀ q, q < n → q * n + q < i ∨ mx.getD (q * n + q) 0 = 0 := by
 unfold dz
 simp only [List.all_eq_true, List.mem_range, Bool.or_eq_true, decide_eq_true_eq, beq_iff_eq]
theorem dz_on (n i : Nat) (mx : List Int) (hi : i < n * n) (h : i % (n + 1) = 0) : dz n i mx = (mx.getD i 0 == 0 && dz n (i + 1) mx) := by
 obtain ⟨q, rfl⟩ : ∃ q, i = (n + 1) * q := Nat.dvd_of_mod_eq_zero h
 have e : (n + 1) * q = q * n + q := by rw [Nat.add_mul, Nat.mul_comm n q, Nat.one_mul]
 have hq : q < n := by
  rcases Nat.lt_or_ge q n with h' | h'
  ·exact h'
  ·have := Nat.mul_le_mul_right n h'
   omega
 rw [Bool.eq_iff_iff, Bool.and_eq_true, beq_iff_eq, dz_iff, dz_iff]
 rw [e]
 constructor
 ·intro h
  refine ⟨?_, fun p hp => ?_⟩
  ·rcases h q hq with h1 | h1
   ·omega
   ·exact h1
  ·rcases h p hp with h1 | h1
   ·left; omega
   ·right; exact h1
 ·rintro ⟨h0, h⟩ p hp
  rcases h p hp with h1 | h1
  ·rcases Nat.lt_or_ge (p * n + p) (q * n + q) with h2 | h2
   ·left; exact h2
   ·right; rw [show p * n + p = q * n + q by omega]; exact h0
  ·right; exact h1
theorem dz_off (n i : Nat) (mx : List Int) (h : i % (n + 1) ≠ 0) : dz n i mx = dz n (i + 1) mx := by
 rw [Bool.eq_iff_iff, dz_iff, dz_iff]
 constructor
 ·intro h p hp
  rcases h p hp with h1 | h1
  ·left; omega
  ·right; exact h1
 ·intro h' p hp
  rcases h' p hp with h1 | h1
  ·left
   rcases Nat.lt_or_ge (p * n + p) i with h2 | h2
   ·exact h2
   ·exfalso
    apply h
    rw [show i = (n + 1) * p by rw [Nat.add_mul, Nat.mul_comm n p, Nat.one_mul]; omega, Nat.mul_mod_right]
  ·right; exact h1
theorem dz_end (n : Nat) (mx : List Int) : dz n (n * n) mx = true := by
 rw [dz_iff]
 intro q hq
 left
 have : q * n + n ≤ n * n := by rw [← Nat.succ_mul]; exact Nat.mul_le_mul_right _ hq
 omega
theorem dz_zero (n : Nat) (mx : List Int) : dz n 0 mx = Cn.diagz n mx := by
 unfold dz Cn.diagz
 simp
theorem matrix_l (nm : ByteArray) (k1 m1 s1 c1 f1 : Int) (l : List S128) (mx : List Int) (n : Nat) (hn : n ≤ 400) (hl : mx.length = n * n) (j : Nat) : ∀ i : Nat, i + j = n * n → ∃ k, entrepotref08_matrix.l0 k (n : Int) (i : Int) nm k1 m1 s1 c1 f1 l mx = some ((mx.drop i).all Cn.num && dz n i mx) := by
  have hnn : n * n ≤ 160000 := Nat.mul_le_mul hn hn
  have hq : ((n : Int) * (n : Int)) = ((n * n : Nat) : Int) := by push_cast; rfl
  have hw : wrap64 ((n : Int) * (n : Int)) = ((n * n : Nat) : Int) := by rw [hq, IntWalk.wrap64_in _ ⟨by omega, by omega⟩]
  have hw1 : wrap64 ((n : Int) + 1) = ((n + 1 : Nat) : Int) := by rw [IntWalk.wrap64_in _ ⟨by omega, by omega⟩]; omega
  induction j with
  | zero =>
    intro i hi
    refine ⟨1, ?_⟩
    simp only [entrepotref08_matrix.l0]
    rw [hw, if_neg (by omega), List.drop_of_length_le (by omega), show i = n * n by omega, dz_end]; rfl
  | succ j ih =>
    intro i hi
    obtain ⟨k, hk⟩ := ih (i + 1) (by omega)
    refine ⟨k + 1, ?_⟩
    have hi' : i < mx.length := by omega
    have hw2 : wrap64 ((i : Int) + 1) = ((i + 1 : Nat) : Int) := by rw [IntWalk.wrap64_in _ ⟨by omega, by omega⟩]; omega
    have hrd : rd mx (i : Int) = mx.getD i 0 := by unfold rd; rw [Int.toNat_natCast]
    have htm : Int.tmod (i : Int) ((n + 1 : Nat) : Int) = ((i % (n + 1) : Nat) : Int) := rfl
    simp only [entrepotref08_matrix.l0]
    rw [hw, if_pos (show (i : Int) < ((n * n : Nat) : Int) by omega), if_pos (show (0 : Int) ≤ i by omega), if_pos (show (i : Int) < (mx.length : Int) by omega), numberF, Option.bind_some, hrd, hw1, hw2, htm]
    have hdr : mx.drop i = mx.getD i 0 :: mx.drop (i + 1) := by
      rw [List.drop_eq_getElem_cons hi', List.getD_eq_getElem?_getD, List.getElem?_eq_getElem hi']; rfl
    rw [hdr, List.all_cons]
    cases hb : Cn.num (mx.getD i 0) with
    | false => simp
    | true =>
      rw [if_pos rfl, if_neg (show ¬ (((n + 1 : Nat) : Int) = 0) by omega)]
      by_cases hm : i % (n + 1) = 0
      · rw [if_pos (show ((i % (n + 1) : Nat) : Int) = 0 by omega), dz_on n i mx (by omega) hm]
        by_cases h0 : mx.getD i 0 = 0
        · rw [if_pos h0, hk, h0]; simp
        · rw [if_neg h0]
          have : (mx.getD i 0 == 0) = false := by simpa using h0
          rw [this]; simp
      · rw [if_neg (show ¬ ((i % (n + 1) : Nat) : Int) = 0 by omega), hk, dz_off n i mx hm]; simp
theorem matrixF {x : Cn.In} (hn : x.nodes.length ≤ 400) : ∃ k, entrepotref08_matrix.f k x.nm x.kind x.metric x.scale x.cap x.fleet (x.nodes.map rn) x.mx = some (Cn.matrix x) := by
 have hnn : x.nodes.length * x.nodes.length ≤ 160000 := Nat.mul_le_mul hn hn
 have hq : ((x.nodes.length : Int) * (x.nodes.length : Int)) = ((x.nodes.length * x.nodes.length : Nat) : Int) := by push_cast; rfl
 have hw : wrap64 ((x.nodes.length : Int) * (x.nodes.length : Int)) = ((x.nodes.length * x.nodes.length : Nat) : Int) := by rw [hq, IntWalk.wrap64_in _ ⟨by omega, by omega⟩]
 unfold entrepotref08_matrix.f Cn.matrix
 rw [List.length_map, hw]
 by_cases hm : x.metric = 0
 ·rw [if_pos hm]
  by_cases hl : x.mx.length = x.nodes.length * x.nodes.length
  ·obtain ⟨k, hk⟩ := matrix_l x.nm x.kind x.metric x.scale x.cap x.fleet (x.nodes.map rn) x.mx x.nodes.length hn hl (x.nodes.length * x.nodes.length) 0 (by omega)
   refine ⟨k, ?_⟩
   rw [if_pos (show (x.mx.length : Int) = ((x.nodes.length * x.nodes.length : Nat) : Int) by omega)]
   rw [dz_zero, List.drop_zero] at hk
   rw [show ((0 : Nat) : Int) = 0 from rfl] at hk
   rw [hk]
   have : (x.mx.length == x.nodes.length * x.nodes.length) = true := by simpa using hl
   rw [this, if_pos hm]; rfl
  ·refine ⟨0, ?_⟩
   rw [if_neg (show ¬ (x.mx.length : Int) = ((x.nodes.length * x.nodes.length : Nat) : Int) by omega)]
   have : (x.mx.length == x.nodes.length * x.nodes.length) = false := by simpa using hl
   rw [this, if_pos hm]; rfl
 ·refine ⟨0, ?_⟩
  simp only [if_neg hm]
  congr 1
  rw [Bool.eq_iff_iff]; simp
theorem drop_c (s : ByteArray) (i : Nat) (h : i < s.size) : s.data.toList.drop i = s.data.toList.getD i 0 :: s.data.toList.drop (i + 1) := by
 have h' : i < s.data.toList.length := h
 rw [List.drop_eq_getElem_cons h', List.getD_eq_getElem?_getD, List.getElem?_eq_getElem h']; rfl
theorem nam_iff (n : Nat) : Wd.nam n = true ↔ (65 ≤ n ∧ n ≤ 90) ∨ (48 ≤ n ∧ n ≤ 57) ∨ n = 95 ∨ (97 ≤ n ∧ n ≤ 122) ∨ n = 46 ∨ n = 45 := by
 unfold Wd.nam Wd.cap; simp only [Bool.or_eq_true, Bool.and_eq_true, decide_eq_true_eq, beq_iff_eq]; omega
theorem refName_l (s : ByteArray) (hs : s.size ≤ 1000000000) (j : Nat) : ∀ i : Nat, i + j = s.size → Ev (fun k => entrepotref03_Name.l0 k s (i : Int)) (Wd.allOf Wd.nam (s.data.toList.drop i) && decide (1 ≤ s.size) && decide (s.size ≤ 40)) := by
  induction j with
  | zero =>
    intro i hi
    refine ⟨1, fun k hk => ?_⟩
    obtain ⟨m, rfl⟩ : ∃ m, k = m + 1 := ⟨k - 1, by omega⟩
    simp only [entrepotref03_Name.l0]
    rw [if_neg (by omega), List.drop_of_length_le (by show s.size ≤ i; omega)]
    by_cases h : 1 ≤ s.size
    · rw [if_pos (by omega), decide_eq_true h, show decide ((s.size : Int) ≤ 40) = decide (s.size ≤ 40) by rw [decide_eq_decide]; omega]; simp [Wd.allOf]
    · rw [if_neg (by omega), decide_eq_false h]; simp
  | succ j ih =>
    intro i hi
    rw [drop_c s i (by omega)]
    have hb := Evs.bt_get s i
    obtain ⟨c, hc⟩ : ∃ c, s.data.toList.getD i 0 = c := ⟨_, rfl⟩
    rw [hc] at hb ⊢
    have hw : wrap64 ((i : Int) + 1) = ((i + 1 : Nat) : Int) := by rw [Evs.w64 _ (by omega) (by omega)]; omega
    have e : Wd.allOf Wd.nam (c :: s.data.toList.drop (i + 1)) = (Wd.nam c.toNat && Wd.allOf Wd.nam (s.data.toList.drop (i + 1))) := by unfold Wd.allOf; rw [List.all_cons]
    rw [e]
    have hn := nam_iff c.toNat
    obtain ⟨n, hcn⟩ : ∃ n, c.toNat = n := ⟨_, rfl⟩
    rw [hcn] at hb hn ⊢
    obtain ⟨y, hy⟩ : ∃ y : Int, ((i + 1 : Nat) : Int) = y := ⟨_, rfl⟩
    have hnext := ih (i + 1) (by omega)
    rw [hy] at hw hnext
    cases hp : Wd.nam n with
    | true =>
      rw [Bool.true_and]
      have hn' := hn.1 hp
      clear hn hp ih
      refine Ev.step (fun k => ?_) hnext
      simp only [entrepotref03_Name.l0]
      rw [if_pos (by omega), if_pos (by omega), hb, hw]
      clear hb hw hnext hy
      rcases (show n < 45 ∨ n = 45 ∨ n = 46 ∨ n = 47 ∨ (48 ≤ n ∧ n ≤ 57) ∨ (58 ≤ n ∧ n ≤ 64) ∨ (65 ≤ n ∧ n ≤ 90) ∨ (91 ≤ n ∧ n ≤ 94) ∨ n = 95 ∨ n = 96 ∨ (97 ≤ n ∧ n ≤ 122) ∨ 123 ≤ n by omega) with h|h|h|h|h|h|h|h|h|h|h|h
      all_goals first | (exfalso; omega) | (repeat (first | rw [if_pos (by omega)] | rw [if_neg (by omega)]))
    | false =>
      rw [Bool.false_and, Bool.false_and, Bool.false_and]
      have hn' : ¬ ((65 ≤ n ∧ n ≤ 90) ∨ (48 ≤ n ∧ n ≤ 57) ∨ n = 95 ∨ (97 ≤ n ∧ n ≤ 122) ∨ n = 46 ∨ n = 45) := fun h => by rw [hn.2 h] at hp; cases hp
      clear hn hp ih
      refine ⟨1, fun k hk => ?_⟩
      obtain ⟨m, rfl⟩ : ∃ m, k = m + 1 := ⟨k - 1, by omega⟩
      simp only [entrepotref03_Name.l0]
      rw [if_pos (by omega), if_pos (by omega), hb, hw]
      clear hb hw hnext hy
      rcases (show n < 45 ∨ n = 45 ∨ n = 46 ∨ n = 47 ∨ (48 ≤ n ∧ n ≤ 57) ∨ (58 ≤ n ∧ n ≤ 64) ∨ (65 ≤ n ∧ n ≤ 90) ∨ (91 ≤ n ∧ n ≤ 94) ∨ n = 95 ∨ n = 96 ∨ (97 ≤ n ∧ n ≤ 122) ∨ 123 ≤ n by omega) with h|h|h|h|h|h|h|h|h|h|h|h
      all_goals first | (exfalso; omega) | (repeat (first | rw [if_pos (by omega)] | rw [if_neg (by omega)]))
theorem refName (s : ByteArray) (hs : s.size ≤ 1000000000) : Ev (fun k => entrepotref03_Name.f k s) (Wd.okName Wd.nam s.data.toList) := by
 have := refName_l s hs s.size 0 (by omega)
 rw [List.drop_zero] at this
 have e : Wd.okName Wd.nam s.data.toList = (Wd.allOf Wd.nam s.data.toList && decide (1 ≤ s.size) && decide (s.size ≤ 40)) := by
  unfold Wd.okName
  have h1 : (!s.data.toList.isEmpty) = decide (1 ≤ s.size) := by
   have hl : s.data.toList.length = s.size := rfl
   cases h : s.data.toList with
   | nil => rw [h] at hl; simp at hl; simp [← hl]
   | cons c l => rw [h] at hl; simp at hl; simp; omega
  rw [h1, size_len]
 rw [e]; exact this
theorem RF_of (x : Cn.In) (hs : x.nm.size ≤ 1000000000) (ho : ∀ d ∈ x.nodes, NodeOk d) : RF x (x.nodes.map rn) := by
 have hat : ∀ i, i < x.nodes.length → NodeOk (rd_T71 x.nodes i) := fun i hi => by
  unfold rd_T71
  rw [Int.toNat_natCast, List.getD_eq_getElem?_getD, List.getElem?_eq_getElem hi]
  exact ho _ (List.getElem_mem hi)
 exact ⟨by rw [List.length_map], (refName x.nm hs).rounds, knownF _, fun h => matrixF h, fun i hi => coordF hi, fun i hi => ⟨1, demandF hi⟩, fun i hi => ⟨1, windowF hi (hat i hi)⟩, fun i hi => serviceF hi, fun i hi => ⟨1, mateF hi⟩⟩
end Go.Proofs.YtofklpphalalhaaGreatDoor
end
section
namespace Go.Proofs.YtofklpphalalhaaGreatDoor.PAll
set_option linter.unusedVariables false
set_option linter.unusedSimpArgs false
open Go.RowKit Go.Proofs.YtofklpphalalhaaGreatDoor Go.Proofs.YtofklpphalalhaaGreatDoorW.PrintWords Go.Proofs.YtofklpphalalhaaGreatDoorW.PrintLast Go.Proofs.YtofklpphalalhaaGreatDoorW.PrintMore
def nr (d : S128) : S71 := ⟨d.f0, d.f1, d.f2, d.f3, d.f4, d.f5, d.f6⟩
def toF (f : S169) : S199 := ⟨f.f0, f.f1⟩
theorem map_rn_nr (l : List S128) : (l.map nr).map rn = l := by
 rw [List.map_map]; exact List.map_id l
theorem flat_toF (l : List S169) : (l.map toF).flatMap (fun x : S199 => [Value.int .i64 x.f0, .int .i64 x.f1]) = flatF l := by
 unfold flatF
 rw [List.flatMap_map]; rfl
/-- The instance that a reference's instance is. -/
def refIn (a0 : ByteArray) (a1 a2 a3 a4 a5 : Int) (l6 : List S128) (l7 : List Int) : Cn.In := ⟨a0, a1, a2, a3, a4, a5, l6.map nr, l7⟩
def entrepotref08_Check.f (a0 : ByteArray) (a1 a2 a3 a4 a5 : Int) (l6 : List S128) (l7 : List Int) : Option (List S199) :=
 if a0.size ≤ 1000000000 ∧ l6.length ≤ 1000000000 ∧ (∀ d ∈ l6, NodeOk (nr d)) then some ((Cn.check (refIn a0 a1 a2 a3 a4 a5 l6 l7)).map toF) else none
theorem entrepotref08_Check.calls (a0 : ByteArray) (a1 a2 a3 a4 a5 : Int) (A6 : Option Addr) (c6 : Nat) (l6 : List S128) (A7 : Option Addr) (c7 : Nat) (l7 : List Int) (r : List S199) (w : World) (hr6 : Kd.C k128 w A6 l6.length l6) (hc6 : l6.length ≤ c6) (hr7 : Kd.C (Kd.int .i64) w A7 l7.length l7) (hc7 : l7.length ≤ c7) (h : entrepotref08_Check.f a0 a1 a2 a3 a4 a5 l6 l7 = some r) :
  Calls Tryz.prog 104 #[.agg #[.string a0, .int .i64 a1, .int .i64 a2, .int .i64 a3, .int .i64 a4, .int .i64 a5, .slice A6 l6.length c6, .slice A7 l7.length c7]] w fun e w' => ∃ v0_ : Value, e = .returned (v0_) ∧ Kd.R k199 199 w' w.heap.size (fun _ => True) v0_ r ∧ Below w.heap.size w w' := by
 unfold entrepotref08_Check.f at h
 split at h
 ·rename_i hs
  obtain rfl := Option.some.inj h
  have hRF := RF_of (refIn a0 a1 a2 a3 a4 a5 l6 l7) hs.1 (fun d hd => by
   obtain ⟨y, hy, rfl⟩ := List.mem_map.1 hd
   exact hs.2.2 y hy)
  have hl : (refIn a0 a1 a2 a3 a4 a5 l6 l7).nodes.map rn = l6 := map_rn_nr l6
  rw [hl] at hRF
  refine (refCheck_walk (refIn a0 a1 a2 a3 a4 a5 l6 l7) l6 hRF A6 A7 c6 c7 w (by show (l6.map nr).length ≤ _; rw [List.length_map]; exact hs.2.1) hc6 hc7 hr6 hr7).mono ?_
  rintro e w' ⟨v, rfl, ho, hb⟩
  refine ⟨v, rfl, R_of_rows (K := k199) (enc := fun x : S199 => [Value.int .i64 x.f0, .int .i64 x.f1]) (fun w b o x => k199_mkM w b o x) (fun _ => rfl) (by decide) (n := (Cn.check (refIn a0 a1 a2 a3 a4 a5 l6 l7)).length) ?_, hb⟩
  rw [flat_toF]; exact ho
 ·exact absurd h (by simp)
end Go.Proofs.YtofklpphalalhaaGreatDoor.PAll
end
section
namespace Go.Proofs.YtofklpphalalhaaGreatDoor
set_option linter.unusedVariables false
set_option linter.unusedSimpArgs false
open Go.RowKit Go.Proofs.YtofklpphalalhaaGreatDoor.PAll Go.Proofs.YtofklpphalalhaaGreatDoorW.PrintWords Go.Proofs.YtofklpphalalhaaGreatDoorW.PrintLast Go.Proofs.YtofklpphalalhaaGreatDoorW.PrintMore
theorem info128 : (Tryz.prog.info? 128).map (fun i => (i.zero, i.size, i.bytes)) = some (some (.agg #[.int .i64 0, .int .i64 0, .int .i64 0, .int .i64 0, .int .i64 0, .int .i64 0, .int .i64 0]), 7, 56) := by kernel_rfl
theorem map_take_next (l : List S71) (k : Nat) (hk : k < l.length) : (l.take (k + 1)).map rn = (l.take k).map rn ++ [rn (rd_T71 l k)] := by
 unfold rd_T71
 rw [List.take_succ_eq_append_getElem hk, List.map_append, Int.toNat_natCast, List.getD_eq_getElem?_getD, List.getElem?_eq_getElem hk]
 rfl
/-- The block of an instance of the document. -/
def yB (x : Cn.In) (v6 v7 : Value) : Obj := .cells #[.string x.nm, .int .i64 x.kind, .int .i64 x.metric, .int .i64 x.scale, .int .i64 x.cap, .int .i64 x.fleet, v6, v7] 51
/-- What its has: the box, the answer's block, y's block, and y's own row. -/
def IT (w W : World) (x : Cn.In) (v6 v7 u6 : Value) (k : Nat) : Prop :=
 W.heap[w.heap.size]? = some (inB x v6 v7) ∧ W.heap[w.heap.size + 1]? = some (yB Cn.zero (.slice none 0 0) (.slice none 0 0)) ∧ W.heap[w.heap.size + 2]? = some (yB x u6 v7) ∧ Kd.R k128 128 W w.heap.size (fun _ => True) u6 ((x.nodes.take k).map rn) ∧ Below w.heap.size w W
section
variable {w W : World} {x : Cn.In} {v6 v7 u6 : Value} {k : Nat}
theorem IT.bel (h : IT w W x v6 v7 u6 k) : Below w.heap.size w W := h.2.2.2.2
theorem IT.row (h : IT w W x v6 v7 u6 k) : Kd.R k128 128 W w.heap.size (fun _ => True) u6 ((x.nodes.take k).map rn) := h.2.2.2.1
theorem IT.c6 (h : IT w W x v6 v7 u6 k) : W.cell? ⟨w.heap.size, 6, none⟩ = some v6 := by rw [Lib.cell_of_heap h.1]; rfl
theorem IT.y6 (h : IT w W x v6 v7 u6 k) : W.cell? ⟨w.heap.size + 2, 6, none⟩ = some u6 := by rw [Lib.cell_of_heap h.2.2.1]; rfl
theorem IT.drew (h : IT w W x v6 v7 u6 k) : IT w W.drew x v6 v7 u6 k := ⟨h.1, h.2.1, h.2.2.1, Kd.R_below h.row ((Below.refl _ _).drew), h.bel.drew⟩
theorem IT.grown {v : Value} {w1 : World} (h : IT w W x v6 v7 u6 k) (hg : W.grownBy w1 u6.ownBlock) (hb : Below w.heap.size w w1) {l : List S128} (hR : Kd.R k128 128 w1 w.heap.size (fun _ => True) v l) :
  w1.heap[w.heap.size]? = some (inB x v6 v7) ∧ w1.heap[w.heap.size + 1]? = some (yB Cn.zero (.slice none 0 0) (.slice none 0 0)) ∧ w1.heap[w.heap.size + 2]? = some (yB x u6 v7) := by
 obtain ⟨h1, h2, h3, h4, h5⟩ := h
 refine ⟨?_, ?_, ?_⟩
 ·exact (hg.block _ (Array.getElem?_eq_some_iff.1 h1).1 (Kd.R_ne h4 h1 (by decide))).trans h1
 ·exact (hg.block _ (Array.getElem?_eq_some_iff.1 h2).1 (Kd.R_ne h4 h2 (by decide))).trans h2
 ·exact (hg.block _ (Array.getElem?_eq_some_iff.1 h3).1 (Kd.R_ne h4 h3 (by decide))).trans h3
theorem IT.set {w1 : World} {v : Value} {k' : Nat} (h1 : w1.heap[w.heap.size]? = some (inB x v6 v7)) (h2 : w1.heap[w.heap.size + 1]? = some (yB Cn.zero (.slice none 0 0) (.slice none 0 0))) (h3 : w1.heap[w.heap.size + 2]? = some (yB x u6 v7)) (hb : Below w.heap.size w w1) (hR : Kd.R k128 128 w1 w.heap.size (fun _ => True) v ((x.nodes.take k').map rn)) :
  IT w (w1.setCell ⟨w.heap.size + 2, 6, none⟩ v) x v6 v7 v k' := by
 refine ⟨?_, ?_, blk_put h3 6 v rfl, Kd.R_set hR h3 (by decide) 6 v, hb.setCell (p := ⟨w.heap.size + 2, 6, none⟩) (by simp) _⟩
 ·rw [Below.heap_setCell _ _ _ _ (by simp)]; exact h1
 ·rw [Below.heap_setCell _ _ _ _ (by simp)]; exact h2
end
theorem its_start (w : World) (x : Cn.In) (v6 v7 : Value) : IT w (((w.alloc (inB x v6 v7)).alloc (yB Cn.zero (.slice none 0 0) (.slice none 0 0))).alloc (yB x (.slice none 0 0) v7)) x v6 v7 (.slice none 0 0) 0 := by
 have e1 : (w.alloc (inB x v6 v7)).heap.size = w.heap.size + 1 := by simp
 have e2 : ((w.alloc (inB x v6 v7)).alloc (yB Cn.zero (.slice none 0 0) (.slice none 0 0))).heap.size = w.heap.size + 2 := by simp
 have h2 := two_blocks w (inB x v6 v7) (yB Cn.zero (.slice none 0 0) (.slice none 0 0))
 have hb := below_one ((w.alloc (inB x v6 v7)).alloc (yB Cn.zero (.slice none 0 0) (.slice none 0 0))) (yB x (.slice none 0 0) v7)
 refine ⟨(hb.block _ (by omega)).trans h2.1, (hb.block _ (by omega)).trans h2.2, ?_, Kd.R_nil _ _ _ _ _, (below_two w _ _).trans (hb.mono (by omega))⟩
 rw [← e2]
 exact Array.getElem?_push_size
set_option maxRecDepth 100000 in
set_option maxHeartbeats 16000000 in
theorem its22_walk (x : Cn.In) (A6 A7 : Option Addr) (c6 c7 : Nat) (w : World) (hn : x.nodes.length ≤ 420) (hC6 : Kd.C k71 w A6 x.nodes.length x.nodes) :
  Calls Tryz.prog 29 #[inV x (.slice A6 x.nodes.length c6) (.slice A7 x.mx.length c7)] w fun e w' => ∃ u6, e = .returned (.agg #[.string x.nm, .int .i64 x.kind, .int .i64 x.metric, .int .i64 x.scale, .int .i64 x.cap, .int .i64 x.fleet, u6, .slice A7 x.mx.length c7]) ∧ Kd.R k128 128 w' w.heap.size (fun _ => True) u6 (x.nodes.map rn) ∧ Below w.heap.size w w' := by
 have HC6 := Aside0.mk hC6
 have HS0 := Aside0.mk (its_start w x (.slice A6 x.nodes.length c6) (.slice A7 x.mx.length c7))
 clear hC6
 go_enter Tryz.func29, Tryz.ntmps29
 go_wp2_with fail
 go_loopw [4] (fun v wr => ∃ (k : Nat) (u6 : Value), k ≤ x.nodes.length ∧ v = .int .i64 k ∧ IT w wr x (.slice A6 x.nodes.length c6) (.slice A7 x.mx.length c7) u6 k) (fun v _ => x.nodes.length - (intOf v).toNat)
 case atStart => exact ⟨0, _, Nat.zero_le _, rfl, HS0.out⟩
 case round =>
  obtain ⟨k, u6, hk, rfl, hs⟩ := hrel
  have HS := Aside0.mk hs
  have c6' := hs.c6
  clear hs HS0
  by_cases hlt : k < x.nodes.length
  ·have hdl : (k : Int) < (x.nodes.length : Int) := by omega
   have h420 : (k : Int) < 420 := by omega
   obtain ⟨ad, e, x0, x1, x2, x3, x4, x5, x6⟩ := at_T71 (Kd.C_below HC6.out HS.out.bel) (k : Int) (by omega) (by omega)
   subst e
   simp only [Int.toNat_natCast] at x0 x1 x2 x3 x4 x5 x6
   have hnx := map_take_next x.nodes k hlt
   obtain ⟨d, hd⟩ : ∃ d, rd_T71 x.nodes k = d := ⟨_, rfl⟩
   rw [hd] at x0 x1 x2 x3 x4 x5 x6 hnx
   have HNX := Aside0.mk hnx
   have y6' := HS.out.y6
   have hln : ((x.nodes.take k).map rn).length = k := by rw [List.length_map, List.length_take]; omega
   have HLN := Aside0.mk hln
   obtain ⟨Au, cu, eu⟩ := Kd.R_slice HS.out.row
   rw [hln] at eu
   subst eu
   clear hnx hd hln
   go_wp2_with fail
   refine start_ (n := 11) (S := fun w' => w'.cell? ⟨w.heap.size, 6, none⟩ = some (.slice (some ad) x.nodes.length c6) ∧ w'.cell? ⟨w.heap.size + 2, 6, none⟩ = some (.slice Au k cu) ∧ w'.cell? (ad.add (k * 7)) = some (.int .i64 d.f0) ∧ w'.cell? ⟨(ad.add (k * 7)).block, (ad.add (k * 7)).off + 1, none⟩ = some (.int .i64 d.f1) ∧ w'.cell? ⟨(ad.add (k * 7)).block, (ad.add (k * 7)).off + 2, none⟩ = some (.int .i64 d.f2) ∧ w'.cell? ⟨(ad.add (k * 7)).block, (ad.add (k * 7)).off + 3, none⟩ = some (.int .i64 d.f3) ∧ w'.cell? ⟨(ad.add (k * 7)).block, (ad.add (k * 7)).off + 4, none⟩ = some (.int .i64 d.f4) ∧ w'.cell? ⟨(ad.add (k * 7)).block, (ad.add (k * 7)).off + 5, none⟩ = some (.int .i64 d.f5) ∧ w'.cell? ⟨(ad.add (k * 7)).block, (ad.add (k * 7)).off + 6, none⟩ = some (.int .i64 d.f6)) (ds := [8, 10]) #[false, false, false, false, false, false, false, false, false, false, false] (by kernel_rfl) rfl rfl ⟨c6', y6', x0, x1, x2, x3, x4, x5, x6⟩ (fun hHeld => ?_)
   refine pz (i := 0) (N := some 31) (bz 11 1) ?_
   refine pz (i := 2) (N := some 33) (bz 11 5) ?_
   refine pz (i := 4) (N := some 35) (bz 11 21) ?_
   refine tz (i := 1) (N := some 32) (bz 11 23) hHeld ?_
   refine tz (i := 3) (N := some 34) (bz 11 31) hHeld ?_
   refine pz (i := 5) (N := some 36) (bz 11 63) ?_
   refine tz (i := 6) (N := some 37) (bz 11 127) hHeld ?_
   refine one_ (i := 7) (N := some 38) (bz 11 255) rfl rfl (by kernel_rfl) (by decide) (fun K hK => ?_)
   refine vz ?_
   refine hK.out _ _ ⟨cell_alloc c6', cell_alloc y6', cell_alloc x0, cell_alloc x1, cell_alloc x2, cell_alloc x3, cell_alloc x4, cell_alloc x5, cell_alloc x6⟩ (fun hHeld => ?_)
   clear hK K
   refine nz (N := some 38) ?_
   refine last_ (i := 8) (N := some 39) (bz 11 511) rfl rfl (by kernel_rfl) (by decide) (fun K hK => ?_)
   refine Kd.R_append_step k128 (w0 := w) w.heap.size (by rfl) _ _ 49 128 _ 56 (by rfl) Tryz.underlying49 info128 rfl (by decide) (by decide) (.slice Au k cu) _ (rn d) (ncs d) (fun _ => True) (fun _ => False) (by rfl) (by rfl) (k128_mkM _ _ _ (rn d)) (fun k hk => hk.elim) (fun _ _ => trivial) HS.out.drew.row HS.out.drew.bel HS.out.bel.size (by rw [HLN.out]; omega) ?_
   intro v1 w3 hR1 hb1 hg1 hat1
   obtain ⟨A1, c1, e1⟩ := Kd.R_slice hR1
   have hl1 : ((x.nodes.take k).map rn ++ [rn d]).length = k + 1 := by rw [List.length_append, HLN.out]; rfl
   rw [hl1] at e1
   subst e1
   have hE := Aside0.mk (HS.out.drew.grown hg1 hb1 hR1)
   have hB3 := Aside0.mk hb1
   have hR3 := Aside0.mk hR1
   have f3 := Lib.frozen_of_heap hE.out.2.2 6
   have y3 : w3.cell? ⟨w.heap.size + 2, 6, none⟩ = some (.slice Au k cu) := by rw [Lib.cell_of_heap hE.out.2.2]; rfl
   clear hR1 hb1 hg1 hat1
   refine hK.out _ _ ?_
   clear hK K
   refine nz (N := some 39) ?_
   refine pz (i := 9) (N := some 40) (bz 11 1023) ?_
   refine last_ (i := 10) (N := none) (bz 11 2047) rfl rfl (by kernel_rfl) (by decide) (fun K hK => ?_)
   refine sz ?_
   refine hK.out _ _ ?_
   clear hK K
   refine done_ (by kernel_rfl) ?_
   have HIT : Aside0 (IT w (w3.setCell ⟨w.heap.size + 2, 6, none⟩ (.slice A1 (k + 1) c1)) x (.slice (some ad) x.nodes.length c6) (.slice A7 x.mx.length c7) (.slice A1 (k + 1) c1) (k + 1)) := ⟨IT.set hE.out.1 hE.out.2.1 hE.out.2.2 hB3.out (by rw [HNX.out]; exact hR3.out)⟩
   clear hE hB3 hR3 HNX HLN
   go_wp2_with fail
   go_roundw
   case rel => exact ⟨k + 1, _, by omega, by go_num, HIT.out⟩
   case measure => simp [intOf]; omega
  ·have hdl : ¬ ((k : Int) < (x.nodes.length : Int)) := by omega
   obtain rfl : k = x.nodes.length := by omega
   have hR := HS.out.row
   rw [List.take_length] at hR
   have HR := Aside0.mk hR
   obtain ⟨Au, cu, eu⟩ := Kd.R_slice hR
   rw [List.length_map] at eu
   subst eu
   obtain ⟨d0, d1, d2, d3, d4, d5, d6, d7⟩ : wr.cell? ⟨w.heap.size + 2, 0, none⟩ = some (.string x.nm) ∧ wr.cell? ⟨w.heap.size + 2, 1, none⟩ = some (.int .i64 x.kind) ∧ wr.cell? ⟨w.heap.size + 2, 2, none⟩ = some (.int .i64 x.metric) ∧ wr.cell? ⟨w.heap.size + 2, 3, none⟩ = some (.int .i64 x.scale) ∧ wr.cell? ⟨w.heap.size + 2, 4, none⟩ = some (.int .i64 x.cap) ∧ wr.cell? ⟨w.heap.size + 2, 5, none⟩ = some (.int .i64 x.fleet) ∧ wr.cell? ⟨w.heap.size + 2, 6, none⟩ = some (.slice Au x.nodes.length cu) ∧ wr.cell? ⟨w.heap.size + 2, 7, none⟩ = some (.slice A7 x.mx.length c7) := by
    refine ⟨?_, ?_, ?_, ?_, ?_, ?_, ?_, ?_⟩ <;> (rw [Lib.cell_of_heap HS.out.2.2.1]; rfl)
   clear hR
   go_wp2_with (refine gate_ (.store 51 (.tmp 2) (.tmp 41)) rfl ?_; refine wpList_store_all rfl rfl 51 (.tmp 2) (.tmp 41) rfl HS.out.2.1 (by rfl) _ [.string x.nm, .int .i64 x.kind, .int .i64 x.metric, .int .i64 x.scale, .int .i64 x.cap, .int .i64 x.fleet, .slice Au x.nodes.length cu, .slice A7 x.mx.length c7] (by rfl) rfl (by kernel_rfl) rfl (by intro q hq; simp only [List.mem_cons, List.not_mem_nil, or_false] at hq; rcases hq with rfl | rfl | rfl | rfl | rfl | rfl | rfl | rfl <;> rfl) ?_)
   intro w1 hb1 hg1
   have HB1 : Aside0 (Below w.heap.size w w1) := ⟨HS.out.bel.grown hg1 HS.out.bel.size (by intro k hk; injection hk; omega)⟩
   have HR1 : Aside0 (Kd.R k128 128 w1 w.heap.size (fun _ => True) (.slice Au x.nodes.length cu) (x.nodes.map rn)) := ⟨Kd.R_mono (Kd.R_grown (Kd.R_types HR.out HS.out.2.1 (by decide)) hg1 (fun k hk e => hk.2 (by injection e))) (fun _ _ => trivial)⟩
   clear d0 d1 d2 d3 d4 d5 d6 d7 hg1 HS HR
   go_wp2_with fail
   refine bodyPost_ret (results_cell_row rfl _ _ (w.heap.size + 1) 51 #[.string x.nm, .int .i64 x.kind, .int .i64 x.metric, .int .i64 x.scale, .int .i64 x.cap, .int .i64 x.fleet, .slice Au x.nodes.length cu, .slice A7 x.mx.length c7] (0, 0) _ rfl hb1 Tryz.underlying51 rfl (by kernel_rfl)) rfl ?_
   exact ⟨_, rfl, HR1.out, HB1.out⟩
end Go.Proofs.YtofklpphalalhaaGreatDoor
end
