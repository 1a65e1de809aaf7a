/- Texts of this claim, joined: RfA, GivenRC. Each as it was, cut to what the claim uses. Conditions: each theorem's own. -/
import Derived.Test.YtofklpphalalhaaGreatDoorUzRcW
import Derived.Test.YtofklpphalalhaaGreatDoorUzJ13
section
namespace Go.Proofs.YtofklpphalalhaaGreatDoor
set_option linter.unusedVariables false
set_option linter.unusedSimpArgs false
open Go.RowKit Go.Proofs.YtofklpphalalhaaGreatDoor.PAll Go.Proofs.YtofklpphalalhaaGreatDoorW.PrintWords Go.Proofs.YtofklpphalalhaaGreatDoorW.PrintLast Go.Proofs.YtofklpphalalhaaGreatDoorW.PrintMore
def rn (d : S71) : S128 := ⟨d.f0, d.f1, d.f2, d.f3, d.f4, d.f5, d.f6⟩
def InI (n : Int) : Prop := -9223372036854775808 ≤ n ∧ n ≤ 9223372036854775807
instance (n : Int) : Decidable (InI n) := by unfold InI; infer_instance
def NodeOk (d : S71) : Prop := InI d.f0 ∧ InI d.f1 ∧ InI d.f2 ∧ InI d.f3 ∧ InI d.f4 ∧ InI d.f5 ∧ InI d.f6
instance (d : S71) : Decidable (NodeOk d) := by unfold NodeOk; infer_instance
theorem or_zero (a b : Int) (ha : InI a) (hb : InI b) : (bits .or .i64 a b == 0) = (a == 0 && b == 0) := by
  unfold InI at ha hb
  rw [Bool.eq_iff_iff]
  simp only [beq_iff_eq, Bool.and_eq_true]
  constructor
  · intro h
    have h' : IntKind.i64.wrap ((BitVec.ofInt 64 a ||| BitVec.ofInt 64 b).toNat : Int) = 0 := h
    rw [IntKind.wrap_i64] at h'
    have hl := (BitVec.ofInt 64 a ||| BitVec.ofInt 64 b).isLt
    have h0 : (BitVec.ofInt 64 a ||| BitVec.ofInt 64 b).toNat = 0 := by
      generalize (BitVec.ofInt 64 a ||| BitVec.ofInt 64 b).toNat = z at *
      simp only [Nat.reducePow] at hl
      omega
    rw [BitVec.toNat_or, Nat.or_eq_zero_iff] at h0
    have ea := Evs.ofInt_nat a
    have eb := Evs.ofInt_nat b
    rw [h0.1] at ea
    rw [h0.2] at eb
    omega
  · rintro ⟨rfl, rfl⟩; decide
theorem rd_rn (l : List S71) (i : Nat) (h : i < l.length) : rd_T128 (l.map rn) (i : Int) = rn (rd_T71 l i) := by
  unfold rd_T128 rd_T71
  simp only [Int.toNat_natCast, List.getD_eq_getElem?_getD, List.getElem?_map, List.getElem?_eq_getElem h]; rfl
theorem signedF (n : Int) : entrepotref08_signed.f n = some (Cn.sgn n) := by
  unfold entrepotref08_signed.f Cn.sgn Cn.btw
  split <;> (simp only [Option.some.injEq]; first | (rw [decide_eq_decide]; omega) | (symm; rw [decide_eq_false_iff_not]; omega))
theorem numberF (n : Int) : entrepotref08_number.f n = some (Cn.num n) := by
  unfold entrepotref08_number.f Cn.num Cn.btw
  split <;> (simp only [Option.some.injEq]; first | (rw [decide_eq_decide]; omega) | (symm; rw [decide_eq_false_iff_not]; omega))
theorem knownF (n : Int) : entrepotref06_Known.f n = some (Cn.known n) := by
  unfold entrepotref06_Known.f Cn.known Cn.btw
  split <;> (simp only [Option.some.injEq]; first | (rw [decide_eq_decide]; omega) | (symm; rw [decide_eq_false_iff_not]; omega))
theorem sgn_in {n : Int} (h : Cn.sgn n = true) : InI n := by
  have := of_decide_eq_true (show decide ((-100000000 : Int) ≤ n ∧ n ≤ 100000000) = true from h)
  unfold InI; omega
section
variable {x : Cn.In} {i : Nat}
theorem coordF (hi : i < x.nodes.length) : entrepotref08_coord.f x.nm x.kind x.metric x.scale x.cap x.fleet (x.nodes.map rn) x.mx (i : Int) = some (Cn.coord x (rd_T71 x.nodes i)) := by
  unfold entrepotref08_coord.f
  rw [if_pos (by omega), if_pos (by rw [List.length_map]; omega), rd_rn _ _ hi]
  obtain ⟨d, hd⟩ : ∃ d, rd_T71 x.nodes i = d := ⟨_, rfl⟩
  rw [hd, show (rn d).f0 = d.f0 from rfl, show (rn d).f1 = d.f1 from rfl, signedF, signedF]
  unfold Cn.coord
  cases h0 : Cn.sgn d.f0 with
  | false => simp
  | true =>
    cases h1 : Cn.sgn d.f1 with
    | false => simp
    | true =>
      rw [or_zero _ _ (sgn_in h0) (sgn_in h1)]
      by_cases hm : x.metric = 0 <;> by_cases h2 : d.f0 = 0 <;> simp [hm, h2]
theorem demandF (hi : i < x.nodes.length) : entrepotref08_demand.f 1 x.nm x.kind x.metric x.scale x.cap x.fleet (x.nodes.map rn) x.mx (i : Int) = some (Cn.demand x (rd_T71 x.nodes i) i) := by
  unfold entrepotref08_demand.f
  rw [if_pos (by omega), if_pos (by rw [List.length_map]; omega), rd_rn _ _ hi]
  obtain ⟨d, hd⟩ : ∃ d, rd_T71 x.nodes i = d := ⟨_, rfl⟩
  rw [hd, show (rn d).f2 = d.f2 from rfl]
  simp only [entrepotref08_demand.j0]
  unfold Cn.demand
  rw [signedF, numberF]
  have hns : Cn.num d.f2 = true → Cn.sgn d.f2 = true := by
    unfold Cn.num Cn.sgn Cn.btw; simp; omega
  by_cases hk : x.kind = 1
  · simp [hk]
  · by_cases h0 : (i : Int) = 0
    · simp [hk, h0]
    · have e0 : ((i : Int) == 0) = false := by simpa using h0
      rw [if_neg hk, e0, if_neg (show ¬ (false = true) by decide), if_neg (show ¬ (x.kind = 1 ∨ (i : Int) = 0) by omega)]
      cases hn : Cn.num d.f2 with
      | true => rw [hn] at hns; simp [hns]
      | false => by_cases h4 : x.kind = 4 <;> simp [h4]
theorem windowF (hi : i < x.nodes.length) (ho : NodeOk (rd_T71 x.nodes i)) : entrepotref08_window.f 1 x.nm x.kind x.metric x.scale x.cap x.fleet (x.nodes.map rn) x.mx (i : Int) = some (Cn.window x (rd_T71 x.nodes i)) := by
  unfold entrepotref08_window.f
  rw [if_pos (by omega), if_pos (by rw [List.length_map]; omega), rd_rn _ _ hi]
  obtain ⟨d, hd⟩ : ∃ d, rd_T71 x.nodes i = d := ⟨_, rfl⟩
  rw [hd] at ho ⊢
  simp only [entrepotref08_window.j0]
  unfold Cn.window Cn.timed
  rw [show (rn d).f3 = d.f3 from rfl, show (rn d).f4 = d.f4 from rfl, numberF, numberF, or_zero _ _ ho.2.2.2.1 ho.2.2.2.2.1]
  by_cases h1 : x.kind = 1
  · by_cases h3 : d.f3 = 0 <;> simp [h1, h3]
  · by_cases h2 : x.kind = 2
    · by_cases h3 : d.f3 = 0 <;> simp [h1, h2, h3]
    · cases h3 : Cn.num d.f3 <;> cases h4 : Cn.num d.f4 <;> simp [h1, h2]
theorem serviceF (hi : i < x.nodes.length) : entrepotref08_service.f x.nm x.kind x.metric x.scale x.cap x.fleet (x.nodes.map rn) x.mx (i : Int) = some (Cn.service x (rd_T71 x.nodes i)) := by
  unfold entrepotref08_service.f
  rw [if_pos (by omega), if_pos (by rw [List.length_map]; omega), rd_rn _ _ hi]
  obtain ⟨d, hd⟩ : ∃ d, rd_T71 x.nodes i = d := ⟨_, rfl⟩
  rw [hd, show (rn d).f5 = d.f5 from rfl, numberF]
  unfold Cn.service Cn.timed
  by_cases h1 : x.kind = 1
  · simp [h1]
  · by_cases h2 : x.kind = 2 <;> simp [h1, h2]
theorem mateF (hi : i < x.nodes.length) : entrepotref08_mate.f 1 x.nm x.kind x.metric x.scale x.cap x.fleet (x.nodes.map rn) x.mx (i : Int) = some (Cn.mate x (rd_T71 x.nodes i) i) := by
  unfold entrepotref08_mate.f
  rw [if_pos (by omega), if_pos (by rw [List.length_map]; omega), rd_rn _ _ hi]
  obtain ⟨d, hd⟩ : ∃ d, rd_T71 x.nodes i = d := ⟨_, rfl⟩
  rw [hd, show (rn d).f6 = d.f6 from rfl]
  simp only [entrepotref08_mate.j0]
  unfold Cn.mate
  by_cases h4 : x.kind = 4
  · rw [if_pos h4]
    by_cases h0 : (i : Int) = 0
    · simp [h0]
    · have e0 : ((i : Int) == 0) = false := by simpa using h0
      rw [e0, if_neg (by simp), if_neg (show ¬ (x.kind ≠ 4 ∨ (i : Int) = 0) by omega)]
      rw [List.length_map]
      by_cases h1 : d.f6 < 1
      · rw [if_pos h1, if_pos (by omega)]
      · rw [if_neg h1]
        by_cases h2 : d.f6 ≥ (x.nodes.length : Int)
        · rw [if_pos h2, if_pos (by omega)]
        · rw [if_neg h2]
          by_cases h3 : d.f6 = (i : Int)
          · rw [if_pos h3, if_pos (Or.inr h3)]
          · rw [if_neg h3, if_pos (show 0 ≤ d.f6 by omega), if_pos (show d.f6 < (x.nodes.length : Int) by omega), if_neg (show ¬ (¬ (1 ≤ d.f6 ∧ d.f6 ≤ (x.nodes.length : Int) - 1) ∨ d.f6 = (i : Int)) by omega)]
            obtain ⟨m, hm⟩ : ∃ m : Nat, d.f6 = m := ⟨d.f6.toNat, by omega⟩
            unfold Cn.nodeAt
            rw [hm, rd_rn _ _ (by omega), rd_rn _ _ hi, hd]
            obtain ⟨e, he⟩ : ∃ e, rd_T71 x.nodes m = e := ⟨_, rfl⟩
            rw [he, show (rn e).f6 = e.f6 from rfl, show (rn e).f2 = e.f2 from rfl, show (rn d).f2 = d.f2 from rfl]
            by_cases h5 : e.f6 = (i : Int)
            · rw [if_pos h5, if_pos (by omega), if_pos (by omega)]
              by_cases h6 : d.f2 = 0 <;> simp [h5, h6]
            · rw [if_neg h5]; simp [h5]
  · rw [if_neg h4, if_pos trivial, if_pos (Or.inl h4)]
end
def dz (n i : Nat) (mx : List Int) : Bool := (List.range n).all fun q => decide (q * n + q < i) || mx.getD (q * n + q) 0 == 0
theorem dz_iff (n i : Nat) (mx : List Int) : dz n i mx = true ↔ ∀ q, q < n → q * n + q < i ∨ mx.getD (q * n + q) 0 = 0 := by
  unfold dz
  simp only [List.all_eq_true, List.mem_range, Bool.or_eq_true, decide_eq_true_eq, beq_iff_eq]
theorem dz_on (n i : Nat) (mx : List Int) (hi : i < n * n) (h : i % (n + 1) = 0) : dz n i mx = (mx.getD i 0 == 0 && dz n (i + 1) mx) := by
  obtain ⟨q, rfl⟩ : ∃ q, i = (n + 1) * q := Nat.dvd_of_mod_eq_zero h
  have e : (n + 1) * q = q * n + q := by rw [Nat.add_mul, Nat.mul_comm n q, Nat.one_mul]
  have hq : q < n := by
    rcases Nat.lt_or_ge q n with h' | h'
    · exact h'
    · have := Nat.mul_le_mul_right n h'
      omega
  rw [Bool.eq_iff_iff, Bool.and_eq_true, beq_iff_eq, dz_iff, dz_iff]
  rw [e]
  constructor
  · intro h
    refine ⟨?_, fun p hp => ?_⟩
    · rcases h q hq with h1 | h1
      · omega
      · exact h1
    · rcases h p hp with h1 | h1
      · left; omega
      · right; exact h1
  · rintro ⟨h0, h⟩ p hp
    rcases h p hp with h1 | h1
    · rcases Nat.lt_or_ge (p * n + p) (q * n + q) with h2 | h2
      · left; exact h2
      · right; rw [show p * n + p = q * n + q by omega]; exact h0
    · right; exact h1
theorem dz_off (n i : Nat) (mx : List Int) (h : i % (n + 1) ≠ 0) : dz n i mx = dz n (i + 1) mx := by
  rw [Bool.eq_iff_iff, dz_iff, dz_iff]
  constructor
  · intro h p hp
    rcases h p hp with h1 | h1
    · left; omega
    · right; exact h1
  · intro h' p hp
    rcases h' p hp with h1 | h1
    · left
      rcases Nat.lt_or_ge (p * n + p) i with h2 | h2
      · exact h2
      · exfalso
        apply h
        rw [show i = (n + 1) * p by rw [Nat.add_mul, Nat.mul_comm n p, Nat.one_mul]; omega, Nat.mul_mod_right]
    · right; exact h1
theorem dz_end (n : Nat) (mx : List Int) : dz n (n * n) mx = true := by
  rw [dz_iff]
  intro q hq
  left
  have : q * n + n ≤ n * n := by rw [← Nat.succ_mul]; exact Nat.mul_le_mul_right _ hq
  omega
theorem dz_zero (n : Nat) (mx : List Int) : dz n 0 mx = Cn.diagz n mx := by
  unfold dz Cn.diagz
  simp
theorem matrix_l (nm : ByteArray) (k1 m1 s1 c1 f1 : Int) (l : List S128) (mx : List Int) (n : Nat) (hn : n ≤ 400) (hl : mx.length = n * n) (j : Nat) : ∀ i : Nat, i + j = n * n → ∃ k, entrepotref08_matrix.l0 k (n : Int) (i : Int) nm k1 m1 s1 c1 f1 l mx = some ((mx.drop i).all Cn.num && dz n i mx) := by
  have hnn : n * n ≤ 160000 := Nat.mul_le_mul hn hn
  have hq : ((n : Int) * (n : Int)) = ((n * n : Nat) : Int) := by push_cast; rfl
  have hw : wrap64 ((n : Int) * (n : Int)) = ((n * n : Nat) : Int) := by rw [hq, IntWalk.wrap64_in _ ⟨by omega, by omega⟩]
  have hw1 : wrap64 ((n : Int) + 1) = ((n + 1 : Nat) : Int) := by rw [IntWalk.wrap64_in _ ⟨by omega, by omega⟩]; omega
  induction j with
  | zero =>
    intro i hi
    refine ⟨1, ?_⟩
    simp only [entrepotref08_matrix.l0]
    rw [hw, if_neg (by omega), List.drop_of_length_le (by omega), show i = n * n by omega, dz_end]; rfl
  | succ j ih =>
    intro i hi
    obtain ⟨k, hk⟩ := ih (i + 1) (by omega)
    refine ⟨k + 1, ?_⟩
    have hi' : i < mx.length := by omega
    have hw2 : wrap64 ((i : Int) + 1) = ((i + 1 : Nat) : Int) := by rw [IntWalk.wrap64_in _ ⟨by omega, by omega⟩]; omega
    have hrd : rd mx (i : Int) = mx.getD i 0 := by unfold rd; rw [Int.toNat_natCast]
    have htm : Int.tmod (i : Int) ((n + 1 : Nat) : Int) = ((i % (n + 1) : Nat) : Int) := rfl
    simp only [entrepotref08_matrix.l0]
    rw [hw, if_pos (show (i : Int) < ((n * n : Nat) : Int) by omega), if_pos (show (0 : Int) ≤ i by omega), if_pos (show (i : Int) < (mx.length : Int) by omega), numberF, Option.bind_some, hrd, hw1, hw2, htm]
    have hdr : mx.drop i = mx.getD i 0 :: mx.drop (i + 1) := by
      rw [List.drop_eq_getElem_cons hi', List.getD_eq_getElem?_getD, List.getElem?_eq_getElem hi']; rfl
    rw [hdr, List.all_cons]
    cases hb : Cn.num (mx.getD i 0) with
    | false => simp
    | true =>
      rw [if_pos rfl, if_neg (show ¬ (((n + 1 : Nat) : Int) = 0) by omega)]
      by_cases hm : i % (n + 1) = 0
      · rw [if_pos (show ((i % (n + 1) : Nat) : Int) = 0 by omega), dz_on n i mx (by omega) hm]
        by_cases h0 : mx.getD i 0 = 0
        · rw [if_pos h0, hk, h0]; simp
        · rw [if_neg h0]
          have : (mx.getD i 0 == 0) = false := by simpa using h0
          rw [this]; simp
      · rw [if_neg (show ¬ ((i % (n + 1) : Nat) : Int) = 0 by omega), hk, dz_off n i mx hm]; simp
theorem matrixF {x : Cn.In} (hn : x.nodes.length ≤ 400) : ∃ k, entrepotref08_matrix.f k x.nm x.kind x.metric x.scale x.cap x.fleet (x.nodes.map rn) x.mx = some (Cn.matrix x) := by
  have hnn : x.nodes.length * x.nodes.length ≤ 160000 := Nat.mul_le_mul hn hn
  have hq : ((x.nodes.length : Int) * (x.nodes.length : Int)) = ((x.nodes.length * x.nodes.length : Nat) : Int) := by push_cast; rfl
  have hw : wrap64 ((x.nodes.length : Int) * (x.nodes.length : Int)) = ((x.nodes.length * x.nodes.length : Nat) : Int) := by rw [hq, IntWalk.wrap64_in _ ⟨by omega, by omega⟩]
  unfold entrepotref08_matrix.f Cn.matrix
  rw [List.length_map, hw]
  by_cases hm : x.metric = 0
  · rw [if_pos hm]
    by_cases hl : x.mx.length = x.nodes.length * x.nodes.length
    · obtain ⟨k, hk⟩ := matrix_l x.nm x.kind x.metric x.scale x.cap x.fleet (x.nodes.map rn) x.mx x.nodes.length hn hl (x.nodes.length * x.nodes.length) 0 (by omega)
      refine ⟨k, ?_⟩
      rw [if_pos (show (x.mx.length : Int) = ((x.nodes.length * x.nodes.length : Nat) : Int) by omega)]
      rw [dz_zero, List.drop_zero] at hk
      rw [show ((0 : Nat) : Int) = 0 from rfl] at hk
      rw [hk]
      have : (x.mx.length == x.nodes.length * x.nodes.length) = true := by simpa using hl
      rw [this, if_pos hm]; rfl
    · refine ⟨0, ?_⟩
      rw [if_neg (show ¬ (x.mx.length : Int) = ((x.nodes.length * x.nodes.length : Nat) : Int) by omega)]
      have : (x.mx.length == x.nodes.length * x.nodes.length) = false := by simpa using hl
      rw [this, if_pos hm]; rfl
  · refine ⟨0, ?_⟩
    simp only [if_neg hm]
    congr 1
    rw [Bool.eq_iff_iff]; simp
theorem drop_c (s : ByteArray) (i : Nat) (h : i < s.size) : s.data.toList.drop i = s.data.toList.getD i 0 :: s.data.toList.drop (i + 1) := by
  have h' : i < s.data.toList.length := h
  rw [List.drop_eq_getElem_cons h', List.getD_eq_getElem?_getD, List.getElem?_eq_getElem h']; rfl
theorem nam_iff (n : Nat) : Wd.nam n = true ↔ (65 ≤ n ∧ n ≤ 90) ∨ (48 ≤ n ∧ n ≤ 57) ∨ n = 95 ∨ (97 ≤ n ∧ n ≤ 122) ∨ n = 46 ∨ n = 45 := by
  unfold Wd.nam Wd.cap; simp only [Bool.or_eq_true, Bool.and_eq_true, decide_eq_true_eq, beq_iff_eq]; omega
theorem refName_l (s : ByteArray) (hs : s.size ≤ 1000000000) (j : Nat) : ∀ i : Nat, i + j = s.size → Ev (fun k => entrepotref03_Name.l0 k s (i : Int)) (Wd.allOf Wd.nam (s.data.toList.drop i) && decide (1 ≤ s.size) && decide (s.size ≤ 40)) := by
  induction j with
  | zero =>
    intro i hi
    refine ⟨1, fun k hk => ?_⟩
    obtain ⟨m, rfl⟩ : ∃ m, k = m + 1 := ⟨k - 1, by omega⟩
    simp only [entrepotref03_Name.l0]
    rw [if_neg (by omega), List.drop_of_length_le (by show s.size ≤ i; omega)]
    by_cases h : 1 ≤ s.size
    · rw [if_pos (by omega), decide_eq_true h, show decide ((s.size : Int) ≤ 40) = decide (s.size ≤ 40) by rw [decide_eq_decide]; omega]; simp [Wd.allOf]
    · rw [if_neg (by omega), decide_eq_false h]; simp
  | succ j ih =>
    intro i hi
    rw [drop_c s i (by omega)]
    have hb := Evs.bt_get s i
    obtain ⟨c, hc⟩ : ∃ c, s.data.toList.getD i 0 = c := ⟨_, rfl⟩
    rw [hc] at hb ⊢
    have hw : wrap64 ((i : Int) + 1) = ((i + 1 : Nat) : Int) := by rw [Evs.w64 _ (by omega) (by omega)]; omega
    have e : Wd.allOf Wd.nam (c :: s.data.toList.drop (i + 1)) = (Wd.nam c.toNat && Wd.allOf Wd.nam (s.data.toList.drop (i + 1))) := by unfold Wd.allOf; rw [List.all_cons]
    rw [e]
    have hn := nam_iff c.toNat
    obtain ⟨n, hcn⟩ : ∃ n, c.toNat = n := ⟨_, rfl⟩
    rw [hcn] at hb hn ⊢
    obtain ⟨y, hy⟩ : ∃ y : Int, ((i + 1 : Nat) : Int) = y := ⟨_, rfl⟩
    have hnext := ih (i + 1) (by omega)
    rw [hy] at hw hnext
    cases hp : Wd.nam n with
    | true =>
      rw [Bool.true_and]
      have hn' := hn.1 hp
      clear hn hp ih
      refine Ev.step (fun k => ?_) hnext
      simp only [entrepotref03_Name.l0]
      rw [if_pos (by omega), if_pos (by omega), hb, hw]
      clear hb hw hnext hy
      rcases (show n < 45 ∨ n = 45 ∨ n = 46 ∨ n = 47 ∨ (48 ≤ n ∧ n ≤ 57) ∨ (58 ≤ n ∧ n ≤ 64) ∨ (65 ≤ n ∧ n ≤ 90) ∨ (91 ≤ n ∧ n ≤ 94) ∨ n = 95 ∨ n = 96 ∨ (97 ≤ n ∧ n ≤ 122) ∨ 123 ≤ n by omega) with h|h|h|h|h|h|h|h|h|h|h|h
      all_goals first | (exfalso; omega) | (repeat (first | rw [if_pos (by omega)] | rw [if_neg (by omega)]))
    | false =>
      rw [Bool.false_and, Bool.false_and, Bool.false_and]
      have hn' : ¬ ((65 ≤ n ∧ n ≤ 90) ∨ (48 ≤ n ∧ n ≤ 57) ∨ n = 95 ∨ (97 ≤ n ∧ n ≤ 122) ∨ n = 46 ∨ n = 45) := fun h => by rw [hn.2 h] at hp; cases hp
      clear hn hp ih
      refine ⟨1, fun k hk => ?_⟩
      obtain ⟨m, rfl⟩ : ∃ m, k = m + 1 := ⟨k - 1, by omega⟩
      simp only [entrepotref03_Name.l0]
      rw [if_pos (by omega), if_pos (by omega), hb, hw]
      clear hb hw hnext hy
      rcases (show n < 45 ∨ n = 45 ∨ n = 46 ∨ n = 47 ∨ (48 ≤ n ∧ n ≤ 57) ∨ (58 ≤ n ∧ n ≤ 64) ∨ (65 ≤ n ∧ n ≤ 90) ∨ (91 ≤ n ∧ n ≤ 94) ∨ n = 95 ∨ n = 96 ∨ (97 ≤ n ∧ n ≤ 122) ∨ 123 ≤ n by omega) with h|h|h|h|h|h|h|h|h|h|h|h
      all_goals first | (exfalso; omega) | (repeat (first | rw [if_pos (by omega)] | rw [if_neg (by omega)]))
theorem refName (s : ByteArray) (hs : s.size ≤ 1000000000) : Ev (fun k => entrepotref03_Name.f k s) (Wd.okName Wd.nam s.data.toList) := by
  have := refName_l s hs s.size 0 (by omega)
  rw [List.drop_zero] at this
  have e : Wd.okName Wd.nam s.data.toList = (Wd.allOf Wd.nam s.data.toList && decide (1 ≤ s.size) && decide (s.size ≤ 40)) := by
    unfold Wd.okName
    have h1 : (!s.data.toList.isEmpty) = decide (1 ≤ s.size) := by
      have hl : s.data.toList.length = s.size := rfl
      cases h : s.data.toList with
      | nil => rw [h] at hl; simp at hl; simp [← hl]
      | cons c l => rw [h] at hl; simp at hl; simp; omega
    rw [h1, size_len]
  rw [e]; exact this
theorem RF_of (x : Cn.In) (hs : x.nm.size ≤ 1000000000) (ho : ∀ d ∈ x.nodes, NodeOk d) : RF x (x.nodes.map rn) := by
  have hat : ∀ i, i < x.nodes.length → NodeOk (rd_T71 x.nodes i) := fun i hi => by
    unfold rd_T71
    rw [Int.toNat_natCast, List.getD_eq_getElem?_getD, List.getElem?_eq_getElem hi]
    exact ho _ (List.getElem_mem hi)
  exact ⟨by rw [List.length_map], (refName x.nm hs).rounds, knownF _, fun h => matrixF h, fun i hi => coordF hi, fun i hi => ⟨1, demandF hi⟩, fun i hi => ⟨1, windowF hi (hat i hi)⟩, fun i hi => serviceF hi, fun i hi => ⟨1, mateF hi⟩⟩
end Go.Proofs.YtofklpphalalhaaGreatDoor
end
section
namespace Go.Proofs.YtofklpphalalhaaGreatDoor.PAll
set_option linter.unusedVariables false
set_option linter.unusedSimpArgs false
open Go.RowKit Go.Proofs.YtofklpphalalhaaGreatDoor Go.Proofs.YtofklpphalalhaaGreatDoorW.PrintWords Go.Proofs.YtofklpphalalhaaGreatDoorW.PrintLast Go.Proofs.YtofklpphalalhaaGreatDoorW.PrintMore
end Go.Proofs.YtofklpphalalhaaGreatDoor.PAll
end
