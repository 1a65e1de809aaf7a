/- JsonicPrints in plain Lean. Conditions: numbers in 64 bits. -/
import Derived.Test.YtainnkpoibgkcaaDoorPAllx6
namespace Go.Proofs.YtainnkpoibgkcaaDoor
set_option linter.unusedVariables false
set_option linter.unusedSimpArgs false
open Go.RowKit Go.Lib Go.Proofs.YtainnkpoibgkcaaDoor.PAll Go.Proofs.YtainnkpoibgkcaaDoorW.PrintWords Go.Proofs.YtainnkpoibgkcaaDoorW.PrintLast
theorem w64 (n : Int) (h0 : -9223372036854775808 ≤ n) (h1 : n ≤ 9223372036854775807) : wrap64 n = n := IntWalk.wrap64_in n ⟨h0, h1⟩
theorem Ev.one {α : Type} {g : Nat → Option α} {r : α} (h : ∀ k, g (k + 1) = some r) : Ev g r :=
  ⟨1, fun k hk => by obtain ⟨m, rfl⟩ : ∃ m, k = m + 1 := ⟨k - 1, by omega⟩; exact h m⟩
theorem Ev.pos {α : Type} {c : Prop} [Decidable c] {f g : Nat → Option α} {r : α} (hc : c) (h : Ev f r) : Ev (fun k => if c then f k else g k) r := by simp only [if_pos hc]; exact h
theorem Ev.neg {α : Type} {c : Prop} [Decidable c] {f g : Nat → Option α} {r : α} (hc : ¬ c) (h : Ev g r) : Ev (fun k => if c then f k else g k) r := by simp only [if_neg hc]; exact h
theorem S_append (a b : List UInt8) : S a ++ S b = S (a ++ b) := by rw [← S_of (S a ++ S b)]; simp [S]
theorem u64_in (n : Nat) (h : n ≤ 18446744073709551615) : IntKind.u64.wrap (n : Int) = (n : Int) := by
  rw [IntKind.wrap_u64]; omega
theorem S_toList (l : List UInt8) : (S l).toList = l := by rw [ByteArray.toList_eq, S_data]
theorem one_num (c : UInt8) : strOfNums ([(c.toNat : Int)] : List Int) = S [c] := by
  unfold strOfNums S
  simp
theorem digit_of (n : Nat) : ((48 + ((Int.tmod (n : Int) 10) % 256)) % 256 : Int) = (((UInt8.ofNat (48 + n % 10)).toNat : Nat) : Int) := by
  rw [UInt8.toNat_ofNat', Nat.mod_eq_of_lt (by omega)]
  have : Int.tmod (n : Int) 10 = ((n % 10 : Nat) : Int) := Int.ofNat_tmod n 10
  rw [this]; omega
theorem digits_l0 (j : Nat) : ∀ (n : Nat) (acc : List UInt8), 0 < n → n < 10 ^ j → n ≤ 18446744073709551615 → acc.length + j ≤ 1000 → Ev (fun k => entrepotref04_digits.l0 k (n : Int) (S acc)) (S (decDigits n ++ acc)) := by
  induction j with
  | zero => intro n acc h0 h1 _ _; simp at h1; omega
  | succ j ih =>
    intro n acc h0 hj hn ha
    have hd : Int.tdiv (n : Int) 10 = ((n / 10 : Nat) : Int) := Int.ofNat_tdiv n 10
    have hp : n / 10 < 10 ^ j := by rw [Nat.pow_succ] at hj; omega
    have hstep : ∀ k, entrepotref04_digits.l0 (k + 1) (n : Int) (S acc) = entrepotref04_digits.l0 k ((n / 10 : Nat) : Int) (S (UInt8.ofNat (48 + n % 10) :: acc)) := fun k => by
      simp only [entrepotref04_digits.l0]
      rw [if_pos (by omega), Option.bind_some, digit_of, one_num, S_size, S_size, if_pos (by simp; omega), hd, u64_in _ (by omega), S_append]
      rfl
    by_cases h10 : n < 10
    · have e : decDigits n = [UInt8.ofNat (48 + n % 10)] := by rw [decDigits_one h10, Nat.mod_eq_of_lt h10]
      rw [e]
      refine Ev.step hstep (Ev.one fun k => ?_)
      simp only [entrepotref04_digits.l0]
      rw [if_neg (by omega), S_toList, if_neg (by simp)]; rfl
    · have e : decDigits n = decDigits (n / 10) ++ [UInt8.ofNat (48 + n % 10)] := by rw [decDigits, dif_neg h10]
      rw [e, List.append_assoc]
      exact Ev.step hstep (ih (n / 10) _ (by omega) hp (by omega) (by rw [List.length_cons]; omega))
theorem digits (n : Nat) (hn : n ≤ 18446744073709551615) : Ev (fun k => entrepotref04_digits.f k (n : Int)) (S (decDigits n)) := by
  by_cases h0 : n = 0
  · subst h0
    have e : decDigits 0 = [48] := by rw [decDigits_one (by omega)]; rfl
    rw [e]
    have hd : Int.tdiv ((0 : Nat) : Int) 10 = ((0 / 10 : Nat) : Int) := Int.ofNat_tdiv 0 10
    refine Ev.step (f := fun k => entrepotref04_digits.l0 k ((0 : Nat) : Int) (S [48])) (fun k => ?_) (Ev.one fun k => ?_)
    · unfold entrepotref04_digits.f
      simp only [entrepotref04_digits.l0]
      have hg := digit_of 0
      have eS : (⟨#[]⟩ : ByteArray) = S [] := rfl
      rw [if_neg (by omega), eS, S_toList, if_pos rfl, Option.bind_some, hg, one_num, S_size, S_size, if_pos (by decide), hd, u64_in _ (by omega), S_append]
      rfl
    · simp only [entrepotref04_digits.l0]
      rw [if_neg (by omega), S_toList, if_neg (by simp)]
  · have h := digits_l0 20 n [] (by omega) (by omega) hn (by simp)
    rw [List.append_nil] at h
    exact h
theorem num (n : Int) (h : -9223372036854775808 ≤ n ∧ n ≤ 9223372036854775807) : Ev (fun k => entrepotref04_Num.f k n) (S (Lib.itoa n)) := by
  unfold entrepotref04_Num.f
  obtain ⟨h0, h1⟩ := h
  by_cases hn : n ≥ 0
  · obtain ⟨m, rfl⟩ := Int.eq_ofNat_of_zero_le hn
    have e : Lib.itoa (m : Int) = decDigits m := by unfold Lib.itoa; rw [if_neg (by omega), Int.toNat_natCast]
    rw [e]
    simp only [if_pos hn, u64_in m (by omega)]
    exact Ev.bind (digits m (by omega)) (Ev.now _)
  · obtain ⟨m, hm⟩ : ∃ m : Nat, n = -(m : Int) := ⟨n.natAbs, by omega⟩
    have hm1 : 1 ≤ m := by omega
    have e : Lib.itoa n = 45 :: decDigits m := by unfold Lib.itoa; rw [if_pos (by omega), show n.natAbs = m by omega]
    have hw : IntKind.u64.wrap ((IntKind.u64.wrap (wrap64 (-(wrap64 (n + 1))))) + 1) = (m : Int) := by
      rw [w64 (n + 1) (by omega) (by omega), w64 _ (by omega) (by omega), show -(n + 1) = ((m - 1 : Nat) : Int) by omega, u64_in _ (by omega), show ((m - 1 : Nat) : Int) + 1 = (m : Int) by omega, u64_in _ (by omega)]
    rw [e]
    simp only [if_neg hn, hw]
    refine Ev.bind (digits m (by omega)) ?_
    have hl : (decDigits m).length ≤ 21 := by
      have := itoa_length_le n h0 h1
      rw [e, List.length_cons] at this; omega
    have eS : (⟨#[45]⟩ : ByteArray) = S [45] := rfl
    simp only [eS, S_size, S_append]
    rw [if_pos (by omega)]
    exact Ev.now _

/-! Places. -/

/-- An item as the document's. -/
def to39 (x : S38) : S39 := ⟨x.f0, x.f1, x.f2, x.f3⟩
theorem its_l0 (x0 : List S38) (hx : x0.length ≤ 100000) : ∀ (m i k : Nat) (x3 : List S39), x0.length - i = m → i ≤ x0.length → x3.length ≤ i → m < k → entrepotlaw19_its.l0 k x0 x3 (i : Int) = some (x3 ++ (x0.drop i).map to39)
  | m, i, 0, x3, _, _, _, hk => by omega
  | 0, i, k + 1, x3, hm, hi, h3, hk => by
    rw [entrepotlaw19_its.l0, if_neg (by omega), List.drop_eq_nil_of_le (by omega)]; simp
  | m + 1, i, k + 1, x3, hm, hi, h3, hk => by
    have hi : i < x0.length := by omega
    rw [entrepotlaw19_its.l0, if_pos (by omega), if_pos (by omega), if_pos (by omega), show wrap64 ((i : Int) + 1) = ((i + 1 : Nat) : Int) by unfold wrap64; omega]
    rw [its_l0 x0 hx m (i + 1) k _ (by omega) (by omega) (by simp; omega) (by omega)]
    have e : rd_T38 x0 (i : Int) = x0[i] := by unfold rd_T38; rw [Int.toNat_natCast, List.getD_eq_getElem?_getD, List.getElem?_eq_getElem hi]; rfl
    rw [List.drop_eq_getElem_cons hi, e, List.map_cons, List.append_assoc]
    rfl
theorem its_f (x0 : List S38) (hx : x0.length ≤ 100000) (k : Nat) (hk : x0.length < k) : entrepotlaw19_its.f k x0 = some (x0.map to39) := by
  unfold entrepotlaw19_its.f
  have := its_l0 x0 hx x0.length 0 k [] (by omega) (by omega) (by simp) hk
  simpa using this

theorem rd39 (L : List S38) (i : Nat) (h : i < L.length) : rd_T39 (L.map to39) (i : Int) = to39 L[i] := by
  unfold rd_T39
  rw [Int.toNat_natCast, List.getD_eq_getElem?_getD, List.getElem?_map, List.getElem?_eq_getElem h]; rfl
/-- What the document's printer answers, by the plain one's. -/
def res (n : Nat) : Js.Pr → ByteArray × Int
  | some (o, r) => (S o, (n : Int) - (r.length : Int))
  | none => (⟨#[]⟩, -1)
theorem quote_f (x : S38) (h : x.f2.size ≤ 1000000) : entrepotref19_Quote.f x.f2 = some (quoteR (Js.quote x.f2.data.toList)) := by
  unfold entrepotref19_Quote.f; rw [if_pos (by omega)]
theorem drop_suffix_eq {L r : List S38} {a : Nat} (h : r <:+ L.drop a) : L.drop (L.length - r.length) = r := by
  have h2 := h.trans (List.drop_suffix _ _)
  exact (List.suffix_iff_eq_drop.1 h2).symm
section
variable (L : List S38)
def PV (kk : Nat) : Prop := ∀ (d a : Nat), a ≤ L.length → 2 * (L.drop a).length + 1 ≤ kk → d ≤ 16 → Ev (fun k => entrepotref19_printed.f k (L.map to39) (a : Int) (d : Int)) (res L.length (Js.pval kk d (L.drop a)))
def PM (kk : Nat) : Prop := ∀ (d a n : Nat) (obj : Bool) (acc : List UInt8) (y1 : Int) (y2 : ByteArray) (y3 : Int), a ≤ L.length → n ≤ a → 2 * (L.drop a).length + 2 ≤ kk → d < 16 → acc.length + Js.osz (L.drop a) + 2 ≤ 1000000000000000 →
  Ev (fun k => entrepotref19_printed.l0 k (L.map to39) (a : Int) (d : Int) (S acc) (S [if obj then 125 else 93]) (n : Int) (if obj then 4 else 3) y1 y2 y3) (res L.length (Js.pre acc (Js.pmany kk d obj (n == 0) (L.drop a))))
variable {L}
theorem j0_none (LL : List S39) (a : Int) (d : Nat) (f0 y1 : Int) (y2 : ByteArray) (y3 : Int) (h2 : f0 ≠ 2) (h : d = 16 ∨ (f0 ≠ 3 ∧ f0 ≠ 4)) : Ev (fun k => entrepotref19_printed.j0 k LL a (d : Int) false f0 y1 y2 y3) (⟨#[]⟩, -1) := by
  have hj1 : Ev (fun k => entrepotref19_printed.j1 k LL a (d : Int) false f0 y1 y2 y3) (⟨#[]⟩, -1) := Ev.one fun k => by simp only [entrepotref19_printed.j1]; rw [if_neg (by decide)]
  refine Ev.step (f := fun k => entrepotref19_printed.j1 k LL a (d : Int) false f0 y1 y2 y3) (fun k => ?_) hj1
  simp only [entrepotref19_printed.j0]
  rw [if_neg (by decide), if_neg h2]
  rcases h with h | ⟨h3, h4⟩
  · subst h
    by_cases h3 : f0 = 3
    · rw [if_pos h3]; rfl
    · rw [if_neg h3]
      by_cases h4 : f0 = 4
      · rw [if_pos h4]; rfl
      · rw [if_neg h4]
  · rw [if_neg h3, if_neg h4]
theorem pv_step {kk : Nat} (hF : ∀ x ∈ L, x.f2.size ≤ 1000000) (hlen : L.length ≤ 1000000) (hz : Js.osz L + 10 ≤ 1000000000000000) (hM : PM L kk) : PV L (kk + 1) := by
  intro d a ha hk hd
  by_cases hlt : a < L.length
  · have hdr : L.drop a = L[a] :: L.drop (a + 1) := List.drop_eq_getElem_cons hlt
    obtain ⟨x, hx⟩ : ∃ x, L[a] = x := ⟨_, rfl⟩
    have hxm : x ∈ L := by rw [← hx]; exact List.getElem_mem hlt
    have hrd := rd39 L a hlt
    rw [hx] at hdr hrd
    have hw : wrap64 ((a : Int) + 1) = (L.length : Int) - ((L.drop (a + 1)).length : Int) := by rw [List.length_drop]; unfold wrap64; omega
    have hstep : ∀ k, entrepotref19_printed.f (k + 1) (L.map to39) (a : Int) (d : Int) = (if x.f0 = 1 then (if x.f1 ≥ -100000000 then entrepotref19_printed.j0 k (L.map to39) a d (decide (x.f1 ≤ 100000000)) x.f0 x.f1 x.f2 x.f3 else entrepotref19_printed.j0 k (L.map to39) a d false x.f0 x.f1 x.f2 x.f3) else entrepotref19_printed.j0 k (L.map to39) a d false x.f0 x.f1 x.f2 x.f3) := fun k => by
      simp only [entrepotref19_printed.f]
      rw [List.length_map, if_neg (by omega), if_pos (by omega), if_pos (by omega), hrd]; rfl
    refine Ev.step hstep ?_
    rw [hdr]
    simp only [Js.pval]
    by_cases h1 : x.f0 = 1
    · rw [if_pos h1]
      refine Ev.pos h1 ?_
      by_cases hlo : -100000000 ≤ x.f1
      · refine Ev.pos hlo ?_
        by_cases hhi : x.f1 ≤ 100000000
        · rw [if_pos ⟨hlo, hhi⟩]
          refine Ev.step (f := fun k => (entrepotref04_Num.f k x.f1).bind fun t112 => some (t112, wrap64 ((a : Int) + 1))) (fun k => ?_) ?_
          · simp only [entrepotref19_printed.j0]
            rw [if_pos (by simpa using hhi)]
          · have := Ev.bind (f := fun _ t112 => some (t112, wrap64 ((a : Int) + 1))) (num x.f1 ⟨by omega, by omega⟩) (Ev.now _)
            rw [hw] at this
            rw [hw]
            exact this
        · rw [if_neg (fun h => hhi h.2), show decide (x.f1 ≤ 100000000) = false from decide_eq_false hhi]
          exact j0_none _ _ _ _ _ _ _ (by omega) (.inr (by omega))
      · refine Ev.neg hlo ?_
        rw [if_neg (fun h => hlo h.1)]
        exact j0_none _ _ _ _ _ _ _ (by omega) (.inr (by omega))
    rw [if_neg h1]
    refine Ev.neg h1 ?_
    by_cases h2 : x.f0 = 2
    · rw [if_pos h2]
      refine Ev.one fun k => ?_
      simp only [entrepotref19_printed.j0]
      rw [if_neg (by decide), if_pos h2, quote_f x (hF x hxm), Option.bind_some, hw]
      unfold Js.pq
      cases hq : Js.quote x.f2.data.toList with
      | none => rfl
      | some q => rfl
    rw [if_neg h2]
    by_cases h16 : d = 16
    · rw [if_pos h16]; exact j0_none _ _ _ _ _ _ _ h2 (.inl h16)
    rw [if_neg h16]
    by_cases h34 : x.f0 = 3 ∨ x.f0 = 4
    · have hgo : ∀ (obj : Bool), x.f0 = (if obj then 4 else 3) → Ev (fun k => entrepotref19_printed.j0 k (L.map to39) (a : Int) (d : Int) false x.f0 x.f1 x.f2 x.f3) (res L.length (Js.pre [if obj then 123 else 91] (Js.pmany kk d obj true (L.drop (a + 1))))) := fun obj hob => by
        have hosz : Js.osz (L.drop (a + 1)) ≤ Js.osz L := Js.osz_suffix (List.drop_suffix _ _)
        have hdl : (L.drop a).length = (L.drop (a + 1)).length + 1 := by rw [hdr]; rfl
        have hm := hM d (a + 1) 0 obj [if obj then 123 else 91] x.f1 x.f2 x.f3 (by omega) (by omega) (by omega) (by omega) (by rw [List.length_singleton]; omega)
        refine Ev.step (f := fun k => entrepotref19_printed.j1 k (L.map to39) (a : Int) (d : Int) true x.f0 x.f1 x.f2 x.f3) (fun k => ?_) (Ev.step (f := fun k => entrepotref19_printed.j2 k (L.map to39) (a : Int) (d : Int) (S [if obj then 123 else 91]) (S [if obj then 125 else 93]) x.f0 x.f1 x.f2 x.f3) (fun k => ?_) (Ev.step (f := fun k => entrepotref19_printed.l0 k (L.map to39) ((a + 1 : Nat) : Int) (d : Int) (S [if obj then 123 else 91]) (S [if obj then 125 else 93]) ((0 : Nat) : Int) (if obj then 4 else 3) x.f1 x.f2 x.f3) (fun k => ?_) hm))
        · simp only [entrepotref19_printed.j0]
          rw [if_neg (by decide), if_neg h2, show decide ((d : Int) < 16) = true from decide_eq_true (by omega)]
          rcases h34 with h3 | h4
          · rw [if_pos h3]
          · rw [if_neg (by omega), if_pos h4]
        · simp only [entrepotref19_printed.j1, if_true]
          cases obj with
          | true => rw [if_pos (show x.f0 = 4 from hob)]; rfl
          | false => rw [if_neg (show ¬ x.f0 = 4 from by have h3 : x.f0 = 3 := hob; omega)]; rfl
        · simp only [entrepotref19_printed.j2]
          rw [show wrap64 ((a : Int) + 1) = ((a + 1 : Nat) : Int) by unfold wrap64; omega, hob]; rfl
      rcases h34 with h3 | h4
      · rw [if_pos h3]; exact hgo false h3
      · rw [if_neg (by omega), if_pos h4]; exact hgo true h4
    · rw [if_neg (fun h => h34 (.inl h)), if_neg (fun h => h34 (.inr h))]
      exact j0_none _ _ _ _ _ _ _ h2 (.inr ⟨fun h => h34 (.inl h), fun h => h34 (.inr h)⟩)
  · have hnil : L.drop a = [] := List.drop_eq_nil_of_le (by omega)
    rw [hnil]
    refine Ev.one fun k => ?_
    simp only [entrepotref19_printed.f]
    rw [List.length_map, if_pos (by omega), pval_nil]; rfl
theorem res_pre (n : Nat) (acc : List UInt8) (R : Js.Pr) : res n (Js.pre acc R) = match R with
    | some (o, r) => (S (acc ++ o), (n : Int) - (r.length : Int))
    | none => (⟨#[]⟩, -1) := by
  cases R with
  | none => rfl
  | some p => obtain ⟨o, r⟩ := p; rfl
/-- What stands behind one of them. -/
def aft (acc : List UInt8) (kk d : Nat) (obj : Bool) : Js.Pr → Js.Pr
  | some (o, r) => Js.pre (acc ++ o) (Js.pmany kk d obj false r)
  | none => none
/-- What stands behind one of them, in a list or an object. -/
theorem pm_go {kk : Nat} (hlen : L.length ≤ 1000000) (hM : PM L kk) {d a n : Nat} {obj : Bool} {acc : List UInt8} {y1 : Int} {y2 : ByteArray} {y3 : Int} {R : Js.Pr} (hd : d < 16) (hn : n < a + 1)
    (hR : ∀ o r, R = some (o, r) → acc.length + o.length + Js.osz r + 2 ≤ 1000000000000000 ∧ r <:+ L.drop a ∧ r.length < (L.drop a).length ∧ 2 * r.length + 2 ≤ kk) {F : Nat → Option (ByteArray × Int)} (hF : Ev F (res L.length R)) :
    Ev (fun k => (F k).bind fun bt => if bt.2 < 0 then some ((⟨#[]⟩ : ByteArray), (-1 : Int)) else if (S acc).size + bt.1.size ≤ 9223372036854775807 then entrepotref19_printed.l0 k (L.map to39) bt.2 (d : Int) (S acc ++ bt.1) (S [if obj then 125 else 93]) (wrap64 ((n : Int) + 1)) (if obj then 4 else 3) y1 y2 y3 else none)
      (res L.length (aft acc kk d obj R)) := by
  refine Ev.bind hF ?_
  cases R with
  | none =>
    refine Ev.pos (by show ((-1 : Int)) < 0; omega) (Ev.now _)
  | some p =>
    obtain ⟨o, r⟩ := p
    obtain ⟨h1, h2, h3, h4⟩ := hR o r rfl
    have hl : (L.drop a).length ≤ L.length := by rw [List.length_drop]; omega
    have hla : (L.drop a).length = L.length - a := List.length_drop
    refine Ev.neg (by show ¬ ((L.length : Int) - (r.length : Int) < 0); omega) (Ev.pos (by show (S acc).size + (S o).size ≤ _; rw [S_size, S_size]; omega) ?_)
    show Ev (fun k => entrepotref19_printed.l0 k (L.map to39) ((L.length : Int) - (r.length : Int)) (d : Int) (S acc ++ S o) (S [if obj then 125 else 93]) (wrap64 ((n : Int) + 1)) (if obj then 4 else 3) y1 y2 y3) _
    rw [show (L.length : Int) - (r.length : Int) = ((L.length - r.length : Nat) : Int) by omega, show wrap64 ((n : Int) + 1) = ((n + 1 : Nat) : Int) by unfold wrap64; omega, S_append]
    have hde := drop_suffix_eq h2
    have hm := hM d (L.length - r.length) (n + 1) obj (acc ++ o) y1 y2 y3 (by omega) (by omega) (by rw [hde]; exact h4) hd (by rw [hde, List.length_append]; omega)
    rw [hde] at hm
    exact hm
theorem pm_step {kk : Nat} (hF : ∀ x ∈ L, x.f2.size ≤ 1000000) (hlen : L.length ≤ 1000000) (hV : PV L kk) (hM : PM L kk) : PM L (kk + 1) := by
  intro d a n obj acc y1 y2 y3 ha hn hk hd hz
  by_cases hlt : a < L.length
  · have hdr : L.drop a = L[a] :: L.drop (a + 1) := List.drop_eq_getElem_cons hlt
    obtain ⟨x, hx⟩ : ∃ x, L[a] = x := ⟨_, rfl⟩
    have hxm : x ∈ L := by rw [← hx]; exact List.getElem_mem hlt
    have hrd := rd39 L a hlt
    rw [hx] at hdr hrd
    have hw : wrap64 ((a : Int) + 1) = (L.length : Int) - ((L.drop (a + 1)).length : Int) := by rw [List.length_drop]; unfold wrap64; omega
    refine Ev.step (f := fun k => entrepotref19_printed.j4 k (L.map to39) (a : Int) (d : Int) (S acc) (S [if obj then 125 else 93]) (n : Int) (x.f0 != 5) (if obj then 4 else 3) y1 y2 y3) (fun k => ?_) ?_
    · simp only [entrepotref19_printed.l0]
      rw [List.length_map, if_pos (by omega), if_pos (by omega), hrd]; rfl
    by_cases h5 : x.f0 = 5
    · rw [hdr, pmany_end h5, show (x.f0 != 5) = false by simpa using h5]
      refine Ev.one fun k => ?_
      simp only [entrepotref19_printed.j4]
      rw [if_neg (by decide), List.length_map, if_pos (by omega), if_pos (by rw [S_size, S_size, List.length_singleton]; omega), S_append, hw]
      rfl
    · have h5' : ∀ y s, L.drop a = y :: s → y.f0 ≠ 5 := fun y s h => by rw [hdr] at h; cases h; exact h5
      rw [pmany_more h5']
      obtain ⟨acc1, hacc1⟩ : ∃ z, acc ++ (if (n == 0) = true then [] else [44]) = z := ⟨_, rfl⟩
      have hl1 : acc1.length ≤ acc.length + 1 := by rw [← hacc1]; split <;> simp
      have hrr : ∀ R : Js.Pr, res L.length (Js.pre acc (match R with
          | some (o, r') => Js.pre ((if (n == 0) = true then [] else [44]) ++ o) (Js.pmany kk d obj false r')
          | none => none)) = res L.length (aft acc1 kk d obj R) := fun R => by
        cases R with
        | none => rfl
        | some p =>
          obtain ⟨o, r'⟩ := p
          simp only [aft]
          rw [pre_pre, ← List.append_assoc, hacc1]
      rw [show (x.f0 != 5) = true by simpa using h5]
      refine cast (congrArg (Ev _) (hrr (Js.pone (Js.pval kk (d + 1)) obj (L.drop a))).symm) ?_
      refine Ev.step (f := fun k => entrepotref19_printed.j5 k (L.map to39) (a : Int) (d : Int) (S acc1) (S [if obj then 125 else 93]) (n : Int) (if obj then 4 else 3) y1 y2 y3) (fun k => ?_) ?_
      · simp only [entrepotref19_printed.j4, if_true]
        by_cases hn0 : n = 0
        · rw [if_neg (by omega), ← hacc1, if_pos (show (n == 0) = true by simp [hn0]), List.append_nil]
        · rw [if_pos (by omega), if_pos (by rw [S_size]; omega), ← hacc1, if_neg (show ¬ (n == 0) = true by simp [hn0]), ← S_append]
      have hfit := fun (l : List S38) (o : List UInt8) (r : List S38) (h : Js.pval kk (d + 1) l = some (o, r)) => (Js.fits_all kk).1 (d + 1) l o r h
      have hdl : (L.drop a).length = (L.drop (a + 1)).length + 1 := by rw [hdr]; rfl
      cases obj with
      | false =>
        have hv := hV (d + 1) a ha (by omega) (by omega)
        have hg := pm_go (R := Js.pval kk (d + 1) (L.drop a)) (acc := acc1) (a := a) (n := n) (obj := false) (y1 := y1) (y2 := y2) (y3 := y3) hlen hM hd (by omega) (fun o r h => by
          have := hfit _ o r h
          exact ⟨by omega, this.2.1, this.2.2, by omega⟩) hv
        refine Ev.step (fun k => ?_) hg
        simp only [entrepotref19_printed.j5]
        rw [if_neg (by decide), show wrap64 ((d : Int) + 1) = ((d + 1 : Nat) : Int) by unfold wrap64; omega]
      | true =>
        obtain ⟨qb, hqb⟩ : ∃ z, quoteR (Js.quote x.f2.data.toList) = z := ⟨_, rfl⟩
        have hstep : ∀ k, entrepotref19_printed.j5 (k + 1) (L.map to39) (a : Int) (d : Int) (S acc1) (S [if true = true then 125 else 93]) (n : Int) (if true = true then 4 else 3) y1 y2 y3 = entrepotref19_printed.j6 k (L.map to39) (a : Int) (d : Int) (S acc1) (S [125]) (n : Int) qb.1 (if x.f0 = 6 then !qb.2 else true) 4 y1 y2 y3 := fun k => by
          simp only [entrepotref19_printed.j5, if_true]
          rw [if_pos (by omega), if_pos (by rw [List.length_map]; omega), hrd]
          show (entrepotref19_Quote.f x.f2).bind _ = _
          rw [quote_f x (hF x hxm), hqb, Option.bind_some]
          by_cases h6 : x.f0 = 6
          · rw [if_pos h6, if_pos (show (to39 x).f0 = 6 from h6)]
          · rw [if_neg h6, if_neg (show ¬ (to39 x).f0 = 6 from h6)]
        refine Ev.step hstep ?_
        have hno : ∀ q : ByteArray, Ev (fun k => entrepotref19_printed.j6 k (L.map to39) (a : Int) (d : Int) (S acc1) (S [125]) (n : Int) q true 4 y1 y2 y3) (⟨#[]⟩, -1) := fun q => Ev.one fun k => by simp only [entrepotref19_printed.j6, if_true]
        rw [hdr]
        simp only [Js.pone, if_true]
        by_cases h6 : x.f0 = 6
        · rw [if_pos h6, if_pos h6]
          cases hq : Js.quote x.f2.data.toList with
          | none =>
            rw [hq] at hqb
            obtain rfl : (⟨#[]⟩, false) = qb := hqb
            exact hno _
          | some q =>
            rw [hq] at hqb
            obtain rfl : (S q, true) = qb := hqb
            have hql := Js.quote_len hq
            rw [size_len] at hql
            have hosz : Js.osz (L.drop a) = 6 * x.f2.size + 30 + Js.osz (L.drop (a + 1)) := by rw [hdr]; rfl
            have hv := hV (d + 1) (a + 1) (by omega) (by omega) (by omega)
            have hg := pm_go (R := Js.pval kk (d + 1) (L.drop (a + 1))) (acc := acc1 ++ q ++ [58]) (a := a + 1) (n := n) (obj := true) (y1 := y1) (y2 := y2) (y3 := y3) hlen hM hd (by omega) (fun o r h => by
              have := hfit _ o r h
              simp only [List.length_append, List.length_singleton]
              exact ⟨by omega, this.2.1, this.2.2, by omega⟩) hv
            have hrr2 : ∀ R : Js.Pr, res L.length (aft acc1 kk d true (Js.pre (q ++ [58]) R)) = res L.length (aft (acc1 ++ q ++ [58]) kk d true R) := fun R => by
              cases R with
              | none => rfl
              | some p => obtain ⟨o, r'⟩ := p; simp only [Js.pre, aft, List.append_assoc]
            refine cast (congrArg (Ev _) (hrr2 (Js.pval kk (d + 1) (L.drop (a + 1)))).symm) ?_
            refine Ev.step (fun k => ?_) hg
            simp only [entrepotref19_printed.j6]
            rw [if_neg (by decide), if_pos (by rw [S_size, S_size]; omega), S_append, if_pos (by rw [S_size, List.length_append]; omega), show wrap64 ((a : Int) + 1) = ((a + 1 : Nat) : Int) by unfold wrap64; omega, show wrap64 ((d : Int) + 1) = ((d + 1 : Nat) : Int) by unfold wrap64; omega, show (S (acc1 ++ q) ++ (⟨#[58]⟩ : ByteArray)) = S (acc1 ++ q ++ [58]) from S_append _ [58]]
            rfl
        · rw [if_neg h6, if_neg h6]
          exact hno _
  · have hnil : L.drop a = [] := List.drop_eq_nil_of_le (by omega)
    rw [hnil]
    refine Ev.step (f := fun k => entrepotref19_printed.j4 k (L.map to39) (a : Int) (d : Int) (S acc) (S [if obj then 125 else 93]) (n : Int) false (if obj then 4 else 3) y1 y2 y3) (fun k => ?_) (Ev.one fun k => ?_)
    · simp only [entrepotref19_printed.l0]
      rw [List.length_map, if_neg (by omega)]
    · simp only [entrepotref19_printed.j4]
      rw [if_neg (by decide), List.length_map, if_neg (by omega)]
      simp only [Js.pmany]; rfl
theorem pvm_all (hF : ∀ x ∈ L, x.f2.size ≤ 1000000) (hlen : L.length ≤ 1000000) (hz : Js.osz L + 10 ≤ 1000000000000000) : ∀ kk, PV L kk ∧ PM L kk
  | 0 => ⟨fun d a ha hk hd => by omega, fun d a n obj acc y1 y2 y3 ha hn hk hd hz => by omega⟩
  | kk + 1 => by
    obtain ⟨ihV, ihM⟩ := pvm_all hF hlen hz kk
    exact ⟨pv_step hF hlen hz ihM, pm_step hF hlen ihV ihM⟩
end
/-- The document's printer answers as the program's. -/
theorem ref_print {L : List S38} (hF : ∀ x ∈ L, x.f2.size ≤ 1000000) (hlen : L.length ≤ 1000000) (hz : Js.osz L + 10 ≤ 1000000000000000) : Ev (fun k => entrepotref19_Print.f k (L.map to39)) (printR (Js.print L)) := by
  have h := (pvm_all hF hlen hz (2 * L.length + 1)).1 0 0 (Nat.zero_le _) (by simp) (by omega)
  rw [List.drop_zero] at h
  unfold entrepotref19_Print.f Js.print
  have hfit := (Js.fits_all (2 * L.length + 1)).1 0 L
  refine Ev.bind h ?_
  cases hR : Js.pval (2 * L.length + 1) 0 L with
  | none =>
    rw [List.length_map]
    refine Ev.neg (by show ¬ (-1 : Int) = (L.length : Int); omega) (Ev.now _)
  | some p =>
    obtain ⟨o, r⟩ := p
    have hf := hfit o r hR
    rw [List.length_map]
    cases r with
    | nil =>
      refine Ev.pos (by show (L.length : Int) - (([] : List S38).length : Int) = _; simp) (Ev.neg (by have := hf.2.2; simp at this; omega) (Ev.now _))
    | cons x r =>
      refine Ev.neg (by show ¬ (L.length : Int) - ((x :: r).length : Int) = _; simp; omega) (Ev.now _)
end Go.Proofs.YtainnkpoibgkcaaDoor
namespace Go.Proofs.YtainnkpoibgkcaaDoor
set_option linter.unusedVariables false
set_option linter.unusedSimpArgs false
open Go.RowKit Go.Lib Go.Proofs.YtainnkpoibgkcaaDoor.PAll Go.Proofs.YtainnkpoibgkcaaDoorW.PrintWords Go.Proofs.YtainnkpoibgkcaaDoorW.PrintLast
theorem rd38 (L : List S38) (i : Nat) (h : i < L.length) : rd_T38 L (i : Int) = L[i] := by
  unfold rd_T38
  rw [Int.toNat_natCast, List.getD_eq_getElem?_getD, List.getElem?_eq_getElem h]; rfl
theorem long_l0 (L : List S38) : ∀ (m i : Nat), 210 - i = m → i ≤ L.length → i ≤ 210 → ∃ b, Ev (fun k => entrepotlaw19_long.l0 k L (i : Int)) b ∧ (b = false → L.length ≤ 200 ∧ ∀ j, i ≤ j → ∀ h : j < L.length, L[j].f2.size ≤ 200) := by
  intro m
  induction m with
  | zero =>
    intro i hm hi h210
    obtain rfl : i = 210 := by omega
    refine ⟨decide ((L.length : Int) > 200), Ev.step (f := fun k => entrepotlaw19_long.j1 k L ((210 : Nat) : Int) false) (fun k => ?_) (Ev.one fun k => by simp only [entrepotlaw19_long.j1]; rw [if_neg (by decide)]), fun h => ?_⟩
    · simp only [entrepotlaw19_long.l0]
      by_cases hl : ((210 : Nat) : Int) < (L.length : Int)
      · rw [if_pos hl]; rfl
      · rw [if_neg hl]
    · simp at h; omega
  | succ m ih =>
    intro i hm hi h210
    by_cases hl : i < L.length
    · have hstep : ∀ k, entrepotlaw19_long.l0 (k + 1) L (i : Int) = entrepotlaw19_long.j1 k L (i : Int) true := fun k => by
        simp only [entrepotlaw19_long.l0]
        rw [if_pos (by omega), show decide ((i : Int) < 210) = true from decide_eq_true (by omega)]
      by_cases hs : (L[i].f2.size : Int) > 200
      · refine ⟨true, Ev.step hstep (Ev.one fun k => ?_), fun h => by cases h⟩
        simp only [entrepotlaw19_long.j1, if_true]
        rw [if_pos (by omega), if_pos (by omega), rd38 L i hl, if_pos hs]
      · obtain ⟨b, h1, h2⟩ := ih (i + 1) (by omega) (by omega) (by omega)
        refine ⟨b, Ev.step hstep (Ev.step (fun k => ?_) h1), fun hb => ⟨(h2 hb).1, fun j hj h => ?_⟩⟩
        · simp only [entrepotlaw19_long.j1, if_true]
          rw [if_pos (by omega), if_pos (by omega), rd38 L i hl, if_neg hs, show wrap64 ((i : Int) + 1) = ((i + 1 : Nat) : Int) by unfold wrap64; omega]
        · by_cases hij : i = j
          · subst hij; omega
          · exact (h2 hb).2 j (by omega) h
    · refine ⟨decide ((L.length : Int) > 200), Ev.step (f := fun k => entrepotlaw19_long.j1 k L (i : Int) false) (fun k => ?_) (Ev.one fun k => by simp only [entrepotlaw19_long.j1]; rw [if_neg (by decide)]), fun h => ⟨by simp at h; omega, fun j hj h => by omega⟩⟩
      simp only [entrepotlaw19_long.l0]
      rw [if_neg (by omega)]
theorem long_f (L : List S38) : ∃ b, Ev (fun k => entrepotlaw19_long.f k L) b ∧ (b = false → L.length ≤ 200 ∧ ∀ x ∈ L, x.f2.size ≤ 200) := by
  obtain ⟨b, h1, h2⟩ := long_l0 L 210 0 rfl (Nat.zero_le _) (by omega)
  refine ⟨b, h1, fun hb => ⟨(h2 hb).1, fun x hx => ?_⟩⟩
  obtain ⟨j, hj, rfl⟩ := List.getElem_of_mem hx
  exact (h2 hb).2 j (Nat.zero_le _) hj
theorem its_ev (L : List S38) (h : L.length ≤ 100000) : Ev (fun k => entrepotlaw19_its.f k L) (L.map to39) := ⟨L.length + 1, fun k hk => its_f L h k (by omega)⟩
theorem data_eq {a b : ByteArray} (h : a = b) : a.toList = b.toList := by rw [h]
theorem jsonicPrints_ev (L : List S38) (t : ByteArray) (hn : ∀ x ∈ L, -9223372036854775808 ≤ x.f1 ∧ x.f1 ≤ 9223372036854775807) : ∃ k, entrepotlaw19_JsonicPrints.f k L t = some true := by
  suffices h : Ev (fun k => entrepotlaw19_JsonicPrints.f k L t) true from h.rounds
  unfold entrepotlaw19_JsonicPrints.f
  have hsh : Ev (fun k => entrepotlaw19_JsonicPrints.j0 k L t true) true := Ev.one fun k => by
    simp only [entrepotlaw19_JsonicPrints.j0, if_true]; rfl
  obtain ⟨b, h1, h2⟩ := long_f L
  refine Ev.bind h1 ?_
  cases b with
  | true => exact Ev.pos rfl hsh
  | false =>
    refine Ev.neg (by decide) ?_
    obtain ⟨hl, hx⟩ := h2 rfl
    by_cases ht : (t.size : Int) > 500
    · exact Ev.pos ht hsh
    · refine Ev.neg ht ?_
      have hfine : FineP L := ⟨by omega, fun x h => ⟨by have := hx x h; omega, (hn x h).1, (hn x h).2⟩⟩
      have hos := Js.osz_le 200 L hx
      have hmul : L.length * (6 * 200 + 30) ≤ 200 * (6 * 200 + 30) := Nat.mul_le_mul_right _ hl
      show Ev (fun k => entrepotlaw19_JsonicPrints.j0 k L t false) true
      have hp : jsonic_Print.f L = some (printR (Js.print L)) := by unfold jsonic_Print.f; rw [if_pos hfine]
      have hq : jsonic_Quote.f t = some (quoteR (Js.quote t.data.toList)) := by unfold jsonic_Quote.f; rw [if_pos (by omega)]
      have hq2 : entrepotref19_Quote.f t = some (quoteR (Js.quote t.data.toList)) := by unfold entrepotref19_Quote.f; rw [if_pos (by omega)]
      refine Ev.step (f := fun k => (entrepotlaw19_its.f k L).bind fun t138 => ((entrepotref19_Print.f k t138).bind fun bt141 => (if (printR (Js.print L)).1.toList = bt141.1.toList then (if ((printR (Js.print L)).2 == bt141.2) = true then some true else some false) else some false))) (fun k => ?_) ?_
      · simp only [entrepotlaw19_JsonicPrints.j0]
        rw [if_neg (by decide), hp, Option.bind_some, hq, hq2]
        simp only [Option.bind_some, if_true, beq_self_eq_true]
      · refine Ev.bind (its_ev L (by omega)) (Ev.bind (ref_print (fun x h => by have := hx x h; omega) (by omega) (by omega)) ?_)
        exact Ev.pos rfl (Ev.pos (by simp) (Ev.now _))
end Go.Proofs.YtainnkpoibgkcaaDoor
