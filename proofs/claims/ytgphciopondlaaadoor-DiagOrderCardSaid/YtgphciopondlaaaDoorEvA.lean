/- Numbers, places and what is told, in plain Lean: the reference's side, and the laws DiagTells and DiagLines. Conditions: texts of at most 1000000000 bytes. -/
import Derived.Test.YtgphciopondlaaaDoorPAllx5
namespace Go.Proofs.YtgphciopondlaaaDoor.Evs
set_option linter.unusedVariables false
set_option linter.unusedSimpArgs false
open Go.RowKit Go.Lib Go.Proofs.YtgphciopondlaaaDoor.PAll Go.Proofs.YtgphciopondlaaaDoorW.PrintWords Go.Proofs.YtgphciopondlaaaDoorW.PrintLast

theorem size_len (s : ByteArray) : s.data.toList.length = s.size := rfl
theorem bt_get (s : ByteArray) (n : Nat) : bt s (n : Int) = ((s.data.toList.getD n 0).toNat : Int) := by
  rw [← rd_bytesOf]; unfold rd Go.Proofs.YtgphciopondlaaaDoorW.PrintWords.bytesOf
  rw [Int.toNat_natCast, List.getD_eq_getElem?_getD, List.getD_eq_getElem?_getD, List.getElem?_map]
  cases s.data.toList[n]? <;> simp
theorem w64 (n : Int) (h0 : -9223372036854775808 ≤ n) (h1 : n ≤ 9223372036854775807) : wrap64 n = n := IntWalk.wrap64_in n ⟨h0, h1⟩
theorem Ev.one {α : Type} {g : Nat → Option α} {r : α} (h : ∀ k, g (k + 1) = some r) : Ev g r :=
  ⟨1, fun k hk => by obtain ⟨m, rfl⟩ : ∃ m, k = m + 1 := ⟨k - 1, by omega⟩; exact h m⟩
theorem Ev.pos {α : Type} {c : Prop} [Decidable c] {f g : Nat → Option α} {r : α} (hc : c) (h : Ev f r) : Ev (fun k => if c then f k else g k) r := by simp only [if_pos hc]; exact h
theorem Ev.neg {α : Type} {c : Prop} [Decidable c] {f g : Nat → Option α} {r : α} (hc : ¬ c) (h : Ev g r) : Ev (fun k => if c then f k else g k) r := by simp only [if_neg hc]; exact h
theorem next_ (i : Nat) (h : i ≤ 1000000000) : wrap64 ((i : Int) + 1) = ((i + 1 : Nat) : Int) := by rw [w64 _ (by omega) (by omega)]; omega
theorem u64_in (n : Nat) (h : n ≤ 18446744073709551615) : IntKind.u64.wrap (n : Int) = (n : Int) := by
  rw [IntKind.wrap_u64]; omega
theorem S_toList (l : List UInt8) : (S l).toList = l := by rw [ByteArray.toList_eq, S_data]
theorem byte_is (c : UInt8) (n : Nat) (hn : n < 256) : ((c.toNat : Int) = (n : Int)) ↔ c = UInt8.ofNat n := by
  constructor
  · intro h
    apply UInt8.toNat_inj.1
    rw [UInt8.toNat_ofNat', Nat.mod_eq_of_lt (by omega)]
    omega
  · rintro rfl
    rw [UInt8.toNat_ofNat', Nat.mod_eq_of_lt (by omega)]


/-! Numbers. -/
theorem one_num (c : UInt8) : strOfNums ([(c.toNat : Int)] : List Int) = S [c] := by
  unfold strOfNums S
  simp
theorem digit_of (n : Nat) : ((48 + ((Int.tmod (n : Int) 10) % 256)) % 256 : Int) = (((UInt8.ofNat (48 + n % 10)).toNat : Nat) : Int) := by
  rw [UInt8.toNat_ofNat', Nat.mod_eq_of_lt (by omega)]
  have : Int.tmod (n : Int) 10 = ((n % 10 : Nat) : Int) := Int.ofNat_tmod n 10
  rw [this]; omega
theorem digits_l0 (j : Nat) : ∀ (n : Nat) (acc : List UInt8), 0 < n → n < 10 ^ j → n ≤ 18446744073709551615 → acc.length + j ≤ 1000 → Ev (fun k => entrepotref04_digits.l0 k (n : Int) (S acc)) (S (decDigits n ++ acc)) := by
  induction j with
  | zero => intro n acc h0 h1 _ _; simp at h1; omega
  | succ j ih =>
    intro n acc h0 hj hn ha
    have hd : Int.tdiv (n : Int) 10 = ((n / 10 : Nat) : Int) := Int.ofNat_tdiv n 10
    have hp : n / 10 < 10 ^ j := by rw [Nat.pow_succ] at hj; omega
    have hstep : ∀ k, entrepotref04_digits.l0 (k + 1) (n : Int) (S acc) = entrepotref04_digits.l0 k ((n / 10 : Nat) : Int) (S (UInt8.ofNat (48 + n % 10) :: acc)) := fun k => by
      simp only [entrepotref04_digits.l0]
      rw [if_pos (by omega), Option.bind_some, digit_of, one_num, S_size, S_size, if_pos (by simp; omega), hd, u64_in _ (by omega), S_append]
      rfl
    by_cases h10 : n < 10
    · have e : decDigits n = [UInt8.ofNat (48 + n % 10)] := by rw [decDigits_one h10, Nat.mod_eq_of_lt h10]
      rw [e]
      refine Ev.step hstep (Ev.one fun k => ?_)
      simp only [entrepotref04_digits.l0]
      rw [if_neg (by omega), S_toList, if_neg (by simp)]; rfl
    · have e : decDigits n = decDigits (n / 10) ++ [UInt8.ofNat (48 + n % 10)] := by rw [decDigits, dif_neg h10]
      rw [e, List.append_assoc]
      exact Ev.step hstep (ih (n / 10) _ (by omega) hp (by omega) (by rw [List.length_cons]; omega))
theorem digits (n : Nat) (hn : n ≤ 18446744073709551615) : Ev (fun k => entrepotref04_digits.f k (n : Int)) (S (decDigits n)) := by
  by_cases h0 : n = 0
  · subst h0
    have e : decDigits 0 = [48] := by rw [decDigits_one (by omega)]; rfl
    rw [e]
    have hd : Int.tdiv ((0 : Nat) : Int) 10 = ((0 / 10 : Nat) : Int) := Int.ofNat_tdiv 0 10
    refine Ev.step (f := fun k => entrepotref04_digits.l0 k ((0 : Nat) : Int) (S [48])) (fun k => ?_) (Ev.one fun k => ?_)
    · unfold entrepotref04_digits.f
      simp only [entrepotref04_digits.l0]
      have hg := digit_of 0
      have eS : (⟨#[]⟩ : ByteArray) = S [] := rfl
      rw [if_neg (by omega), eS, S_toList, if_pos rfl, Option.bind_some, hg, one_num, S_size, S_size, if_pos (by decide), hd, u64_in _ (by omega), S_append]
      rfl
    · simp only [entrepotref04_digits.l0]
      rw [if_neg (by omega), S_toList, if_neg (by simp)]
  · have h := digits_l0 20 n [] (by omega) (by omega) hn (by simp)
    rw [List.append_nil] at h
    exact h
theorem num (n : Int) (h : wf64 n) : Ev (fun k => entrepotref04_Num.f k n) (S (Lib.itoa n)) := by
  unfold entrepotref04_Num.f
  obtain ⟨h0, h1⟩ := h
  by_cases hn : n ≥ 0
  · obtain ⟨m, rfl⟩ := Int.eq_ofNat_of_zero_le hn
    have e : Lib.itoa (m : Int) = decDigits m := by unfold Lib.itoa; rw [if_neg (by omega), Int.toNat_natCast]
    rw [e]
    simp only [if_pos hn, u64_in m (by omega)]
    exact Ev.bind (digits m (by omega)) (Ev.now _)
  · obtain ⟨m, hm⟩ : ∃ m : Nat, n = -(m : Int) := ⟨n.natAbs, by omega⟩
    have hm1 : 1 ≤ m := by omega
    have e : Lib.itoa n = 45 :: decDigits m := by unfold Lib.itoa; rw [if_pos (by omega), show n.natAbs = m by omega]
    have hw : IntKind.u64.wrap ((IntKind.u64.wrap (wrap64 (-(wrap64 (n + 1))))) + 1) = (m : Int) := by
      rw [w64 (n + 1) (by omega) (by omega), w64 _ (by omega) (by omega), show -(n + 1) = ((m - 1 : Nat) : Int) by omega, u64_in _ (by omega), show ((m - 1 : Nat) : Int) + 1 = (m : Int) by omega, u64_in _ (by omega)]
    rw [e]
    simp only [if_neg hn, hw]
    refine Ev.bind (digits m (by omega)) ?_
    have hl : (decDigits m).length ≤ 21 := by
      have := itoa_length_le n h0 h1
      rw [e, List.length_cons] at this; omega
    have eS : (⟨#[45]⟩ : ByteArray) = S [45] := rfl
    simp only [eS, S_size, S_append]
    rw [if_pos (by omega)]
    exact Ev.now _

/-! Places. -/
theorem refWhere_l (s : ByteArray) (hs : s.size ≤ 1000000000) (a : Nat) (ha : a ≤ s.size) (j : Nat) : ∀ i : Nat, i + j = a →
    Ev (fun k => entrepotref01_Where.l0 k s (a : Int) ((Cur.at_ s.data.toList i).1 : Int) ((Cur.at_ s.data.toList i).2 : Int) (i : Int)) (((Cur.at_ s.data.toList a).1 : Int), ((Cur.at_ s.data.toList a).2 : Int), (0 : Int)) := by
  induction j with
  | zero =>
    intro i hi
    obtain rfl : i = a := by omega
    refine ⟨1, fun k hk => ?_⟩
    obtain ⟨m, rfl⟩ : ∃ m, k = m + 1 := ⟨k - 1, by omega⟩
    simp only [entrepotref01_Where.l0]
    rw [if_neg (by omega)]
  | succ j ih =>
    intro i hi
    have := ih (i + 1) (by omega)
    have hb := bt_get s i
    have hg : s.data.toList[i]? = some (s.data.toList.getD i 0) := by
      rw [List.getD_eq_getElem?_getD, List.getElem?_eq_getElem (show i < s.data.toList.length by rw [size_len]; omega)]; rfl
    obtain ⟨c, hc⟩ : ∃ c, s.data.toList.getD i 0 = c := ⟨_, rfl⟩
    rw [hc] at hb hg
    rw [Cur.at_succ _ _ _ hg] at this
    have h10 := byte_is c 10 (by omega)
    have hlt : (Cur.at_ s.data.toList i).1 ≤ i + 1 ∧ (Cur.at_ s.data.toList i).2 ≤ i + 2 := at_le s.data.toList i (by rw [size_len]; omega)
    have hw : wrap64 ((i : Int) + 1) = ((i + 1 : Nat) : Int) := by rw [w64 _ (by omega) (by omega)]; omega
    refine Ev.step (fun k => ?_) this
    simp only [entrepotref01_Where.l0]
    rw [if_pos (by omega), if_pos (by omega), if_pos (by omega), hw]
    by_cases c1 : c = 10
    · rw [if_pos (by rw [hb]; exact h10.2 c1), if_pos c1, w64 _ (by omega) (by omega)]; rfl
    · rw [if_neg (by rw [hb]; exact fun h => c1 (h10.1 h)), if_neg c1, w64 _ (by omega) (by omega)]; rfl
def whereV (s : ByteArray) (a : Int) : Int × Int × Int := if a < 0 ∨ (s.size : Int) < a then (0, 0, 10) else (((Cur.at_ s.data.toList a.toNat).1 : Int), ((Cur.at_ s.data.toList a.toNat).2 : Int), 0)
theorem refWhere (s : ByteArray) (hs : s.size ≤ 1000000000) (a : Int) : Ev (fun k => entrepotref01_Where.f k s a) (whereV s a) := by
  unfold entrepotref01_Where.f whereV
  have out : Ev (fun k => entrepotref01_Where.j0 k s a true) ((0 : Int), (0 : Int), (10 : Int)) := by
    refine ⟨1, fun k hk => ?_⟩
    obtain ⟨m, rfl⟩ : ∃ m, k = m + 1 := ⟨k - 1, by omega⟩
    simp only [entrepotref01_Where.j0]
    rw [if_pos trivial]
  by_cases h0 : a < 0
  · rw [if_pos (.inl h0)]; simp only [if_pos h0]; exact out
  · simp only [if_neg h0]
    by_cases h1 : (s.size : Int) < a
    · rw [if_pos (.inr h1), decide_eq_true (show a > (s.size : Int) from h1)]; exact out
    · rw [if_neg (by omega), decide_eq_false (show ¬ a > (s.size : Int) from h1)]
      obtain ⟨n, rfl⟩ := Int.eq_ofNat_of_zero_le (show 0 ≤ a by omega)
      rw [Int.toNat_natCast]
      have := refWhere_l s hs n (by omega) n 0 (by omega)
      rw [Cur.at_zero] at this
      refine Ev.step (fun k => ?_) this
      simp only [entrepotref01_Where.j0]
      rw [if_neg (by simp)]; rfl

/-! What is told. -/
theorem itoa_le (n : Int) (h : wf64 n) : (Lib.itoa n).length ≤ 21 := itoa_length_le n h.1 h.2
theorem refTell (s : ByteArray) (hs : s.size ≤ 1000000000) (d : Dg.D) (h1 : wf64 d.1) (h2 : wf64 d.2) : Ev (fun k => entrepotref04_Tell.f k s d.1 d.2) (S (tell s.data.toList d)) := by
  unfold entrepotref04_Tell.f
  refine Ev.bind (refWhere s hs d.1) ?_
  have hn2 := num d.2 h2
  have l2 := itoa_le d.2 h2
  have e6 : (⟨#[101, 114, 114, 111, 114, 32]⟩ : ByteArray) = S [101, 114, 114, 111, 114, 32] := rfl
  have e5 : (⟨#[108, 105, 110, 101, 32]⟩ : ByteArray) = S [108, 105, 110, 101, 32] := rfl
  have e9 : (⟨#[44, 32, 99, 111, 108, 117, 109, 110, 32]⟩ : ByteArray) = S [44, 32, 99, 111, 108, 117, 109, 110, 32] := rfl
  have e8 : (⟨#[58, 32, 101, 114, 114, 111, 114, 32]⟩ : ByteArray) = S [58, 32, 101, 114, 114, 111, 114, 32] := rfl
  by_cases hin : 0 ≤ d.1 ∧ d.1 ≤ (s.size : Int)
  · have hv : whereV s d.1 = (((Cur.at_ s.data.toList d.1.toNat).1 : Int), ((Cur.at_ s.data.toList d.1.toNat).2 : Int), 0) := by unfold whereV; rw [if_neg (by omega)]
    have ht : tell s.data.toList d = placeT (Cur.at_ s.data.toList d.1.toNat).1 (Cur.at_ s.data.toList d.1.toNat).2 ++ errT d.2 := by
      unfold tell; rw [if_pos (show 0 ≤ d.1 ∧ d.1 ≤ (s.data.toList.length : Int) from hin)]
    have hat := at_le s.data.toList d.1.toNat (by show d.1.toNat ≤ s.size; omega)
    rw [hv, ht]
    generalize (Cur.at_ s.data.toList d.1.toNat).1 = L at hat ⊢
    generalize (Cur.at_ s.data.toList d.1.toNat).2 = C at hat ⊢
    have wL : wf64 (L : Int) := by unfold wf64; omega
    have wC : wf64 (C : Int) := by unfold wf64; omega
    have lL := itoa_le (L : Int) wL
    have lC := itoa_le (C : Int) wC
    simp only [if_true]
    refine Ev.bind (num (L : Int) wL) ?_
    simp only [e5, e9, e8, S_append, S_size, List.length_append, List.length_cons, List.length_nil]
    refine Ev.pos (by omega) (Ev.pos (by omega) ?_)
    refine Ev.bind (num (C : Int) wC) ?_
    simp only [e5, e9, e8, S_append, S_size, List.length_append, List.length_cons, List.length_nil]
    refine Ev.pos (by omega) (Ev.pos (by omega) ?_)
    refine Ev.bind hn2 ?_
    simp only [e5, e9, e8, S_append, S_size, List.length_append, List.length_cons, List.length_nil]
    refine Ev.pos (by omega) ?_
    have e : [108, 105, 110, 101, 32] ++ Lib.itoa (L : Int) ++ [44, 32, 99, 111, 108, 117, 109, 110, 32] ++ Lib.itoa (C : Int) ++ [58, 32, 101, 114, 114, 111, 114, 32] ++ Lib.itoa d.2 = placeT L C ++ errT d.2 := by simp [placeT, errT]
    rw [e]
    exact Ev.now _
  · have hv : whereV s d.1 = (0, 0, 10) := by unfold whereV; rw [if_pos (by omega)]
    have ht : tell s.data.toList d = errT d.2 := by
      unfold tell; rw [if_neg (show ¬ (0 ≤ d.1 ∧ d.1 ≤ (s.data.toList.length : Int)) from hin)]
    rw [hv, ht]
    simp only [if_neg (show ¬ ((10 : Int) = 0) by decide)]
    refine Ev.bind hn2 ?_
    simp only [e6, S_append, S_size]
    refine Ev.pos (by omega) ?_
    exact Ev.now _
theorem tellF (s : ByteArray) (hs : s.size ≤ 1000000000) (a b : Int) (h1 : wf64 a) (h2 : wf64 b) : diag_Tell.f s a b = some (S (tell s.data.toList (a, b))) := by
  unfold diag_Tell.f; rw [if_pos ⟨hs, h1, h2⟩]
theorem shown_ev : Ev (fun k => entrepotlaw04_shown.f k) true := by
  refine Ev.one fun k => ?_
  have p1 : diag_Put.f ([] : List S25) 3 20 = some [⟨3, 20⟩] := by unfold diag_Put.f; rw [if_pos (by decide)]; rfl
  have p2 : diag_Put.f [(⟨3, 20⟩ : S25)] 1 30 = some [⟨1, 30⟩, ⟨3, 20⟩] := by unfold diag_Put.f; rw [if_pos (by decide)]; rfl
  have p3 : diag_First.f (k + 1) [(⟨1, 30⟩ : S25), ⟨3, 20⟩] = some (1, 30, true) := by
    unfold diag_First.f; simp only [diag_First.l0]; rfl
  have i20 : Lib.itoa 20 = [50, 48] := by
    have e : Lib.itoa ((20 : Nat) : Int) = decDigits 20 := by unfold Lib.itoa; rw [if_neg (by omega), Int.toNat_natCast]
    rw [show (20 : Int) = ((20 : Nat) : Int) from rfl, e, decDigits_two (by omega) (by omega)]; rfl
  have i2 : Lib.itoa ((2 : Nat) : Int) = [50] := by
    have e : Lib.itoa ((2 : Nat) : Int) = decDigits 2 := by unfold Lib.itoa; rw [if_neg (by omega), Int.toNat_natCast]
    rw [e, decDigits_one (by omega)]; rfl
  have p4 : diag_Tell.f (⟨#[97, 10, 98, 99]⟩ : ByteArray) 3 20 = some (S [108, 105, 110, 101, 32, 50, 44, 32, 99, 111, 108, 117, 109, 110, 32, 50, 58, 32, 101, 114, 114, 111, 114, 32, 50, 48]) := by
    rw [tellF _ (by decide) 3 20 (by decide) (by decide)]
    have e : tell (⟨#[97, 10, 98, 99]⟩ : ByteArray).data.toList (3, 20) = placeT 2 2 ++ errT 20 := rfl
    rw [e]
    unfold placeT errT
    rw [i2, i20]; rfl
  have p5 : diag_Sorted.f [(⟨1, 30⟩ : S25), ⟨3, 20⟩] = some true := rfl
  unfold entrepotlaw04_shown.f
  rw [p1, Option.bind_some, p2, Option.bind_some, p3, Option.bind_some]
  have r : rd_T25 [(⟨1, 30⟩ : S25), ⟨3, 20⟩] 1 = ⟨3, 20⟩ := rfl
  rw [r, p4, Option.bind_some, S_toList, p5]
  rfl
theorem DiagTells (s : ByteArray) (a b : Int) (h1 : wf64 a) (h2 : wf64 b) : ∃ k, entrepotlaw04_DiagTells.f k s a b = some true := by
  have hj : Ev (fun k => entrepotlaw04_DiagTells.j0 k s true a b) true := by
    refine Ev.step (f := fun k => (entrepotlaw04_shown.f k).bind fun t208 => (some t208)) (fun k => ?_) (Ev.bind shown_ev (Ev.now _))
    simp only [entrepotlaw04_DiagTells.j0]
    rw [if_pos trivial]
  refine Ev.rounds (g := fun k => entrepotlaw04_DiagTells.f k s a b) ?_
  unfold entrepotlaw04_DiagTells.f
  by_cases h : (s.size : Int) > 1000
  · simp only [if_pos h]; exact hj
  · simp only [if_neg h]
    refine Ev.bind shown_ev ?_
    refine Ev.step (f := fun k => (diag_Tell.f s a b).bind fun t209 => ((entrepotref04_Tell.f k s a b).bind fun t210 => (some (t209.toList == t210.toList)))) (fun k => ?_) ?_
    · simp only [entrepotlaw04_DiagTells.j0]
      rw [if_neg (by simp)]
    · rw [tellF s (by omega) a b h1 h2]
      simp only [Option.bind_some]
      refine Ev.bind (refTell s (by omega) (a, b) h1 h2) ?_
      simp only [BEq.rfl]
      exact Ev.now _
end Go.Proofs.YtgphciopondlaaaDoor.Evs
