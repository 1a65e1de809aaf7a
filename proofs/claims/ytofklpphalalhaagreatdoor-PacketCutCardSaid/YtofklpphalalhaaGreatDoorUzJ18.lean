/- Texts of this claim, joined: PlO, PlA, PlB. Each as it was, cut to what the claim uses. Conditions: each theorem's own. -/
import Derived.Test.YtofklpphalalhaaGreatDoorUzGivenX
import Derived.Test.YtofklpphalalhaaGreatDoorUzGivenR
section
namespace Go.Proofs.YtofklpphalalhaaGreatDoor
set_option linter.unusedVariables false
set_option linter.unusedSimpArgs false
namespace Rr
/-- Lists of numbers, up to the first wrong one. -/
def routesN (s : ByteArray) : Nat → List (List Int) → St → List (List Int) × St
  | 0, l, st => (l, st)
  | n + 1, l, st => if (list s st).2.c = 0 then routesN s n (l ++ [(list s st).1]) (list s st).2 else (l, (list s st).2)
def planR (s : ByteArray) (st : St) := routesN s (count s st).1.toNat [] (count s st).2
def planE (s : ByteArray) (st : St) := fin s (planR s st).2
def getPlan (s : ByteArray) : List (List Int) × Dg.D :=
  (if (planE (opT s) (opened s 2)).c = 0 then (planR (opT s) (opened s 2)).1 else [], ((planE (opT s) (opened s 2)).a, (planE (opT s) (opened s 2)).c))
theorem ok_routesN {s : ByteArray} : ∀ (n : Nat) (l : List (List Int)) (st : St), Ok s st → Ok s (routesN s n l st).2
  | 0, _, _, h => h
  | n + 1, l, st, h => by
    unfold routesN
    split
    · exact ok_routesN n _ _ (ok_list h)
    · exact ok_list h
end Rr
end Go.Proofs.YtofklpphalalhaaGreatDoor
end
section
namespace Go.Proofs.YtofklpphalalhaaGreatDoor
set_option linter.unusedVariables false
set_option linter.unusedSimpArgs false
open Go.RowKit Go.Proofs.YtofklpphalalhaaGreatDoor.PAll
namespace Pk2
theorem gA_ext (a b : List UInt8) (p : Nat) (j : Nat) : ∀ i acc, i + j = 9 → (Pk.gA a p i acc).2.2 = 211 ∨ Pk.gA (a ++ b) p i acc = Pk.gA a p i acc := by
  induction j with
  | zero =>
    intro i acc hi
    right
    rw [Pk.gA, if_pos (by omega)]
    conv => rhs; rw [Pk.gA, if_pos (by omega)]
  | succ j ih =>
    intro i acc hi
    cases hb : a[p + i]? with
    | none =>
      left
      rw [Pk.gA, if_neg (by omega), hb]
    | some c =>
      have hb2 : (a ++ b)[p + i]? = some c := by
        rw [List.getElem?_append_left (List.getElem?_eq_some_iff.1 hb).1]; exact hb
      have e1 : Pk.gA a p i acc = if 128 ≤ c.toNat then Pk.gA a p (i + 1) (acc + (c.toNat - 128) * 128 ^ i) else if c.toNat = 0 ∧ 0 < i then (0, 0, 212) else (acc + c.toNat * 128 ^ i, p + i + 1, 0) := by
        rw [Pk.gA, if_neg (by omega), hb]
      have e2 : Pk.gA (a ++ b) p i acc = if 128 ≤ c.toNat then Pk.gA (a ++ b) p (i + 1) (acc + (c.toNat - 128) * 128 ^ i) else if c.toNat = 0 ∧ 0 < i then (0, 0, 212) else (acc + c.toNat * 128 ^ i, p + i + 1, 0) := by
        rw [Pk.gA, if_neg (by omega), hb2]
      rw [e1, e2]
      by_cases h1 : 128 ≤ c.toNat
      · rw [if_pos h1, if_pos h1]
        exact ih _ _ (by omega)
      · rw [if_neg h1, if_neg h1]
        exact .inr rfl
theorem getU_ext (a b : List UInt8) (p : Int) : (Pk.getU a p).2.2 = 211 ∨ Pk.getU (a ++ b) p = Pk.getU a p := by
  unfold Pk.getU
  by_cases h : p < 0 ∨ (a.length : Int) < p
  · rw [if_pos h]; exact .inl rfl
  · rw [if_neg h, if_neg (by rw [List.length_append]; omega)]
    exact gA_ext a b p.toNat 9 0 0 (by omega)
theorem getI_ext (a b : List UInt8) (p : Int) : (Pk.getI a p).2.2 = 211 ∨ Pk.getI (a ++ b) p = Pk.getI a p := by
  unfold Pk.getI
  rcases getU_ext a b p with h | h
  · exact .inl h
  · rw [h]; exact .inr rfl
theorem getT_ext (a b : List UInt8) (p : Int) : (Pk.getT a p).2.2 = 211 ∨ Pk.getT (a ++ b) p = Pk.getT a p := by
  unfold Pk.getT
  rcases getU_ext a b p with h | h
  · left
    rw [if_pos (by rw [h]; decide)]; exact h
  · rw [h]
    by_cases h1 : (Pk.getU a p).2.2 ≠ 0
    · rw [if_pos h1, if_pos h1]; exact .inr rfl
    · rw [if_neg h1, if_neg h1]
      by_cases h2 : a.length < (Pk.getU a p).2.1 + (Pk.getU a p).1
      · rw [if_pos h2]; exact .inl rfl
      · rw [if_neg h2, if_neg (by rw [List.length_append]; omega)]
        right
        have := getU_end a p (by omega)
        congr 1
        rw [List.drop_append_of_le_length (by omega), List.take_append_of_le_length (by rw [List.length_drop]; omega)]
end Pk2
namespace Rr
theorem n4 : ¬ ((4 : Int) = 0) := by decide
theorem n210 : ¬ ((210 : Int) = 0) := by decide
theorem n211 : ¬ ((211 : Int) = 0) := by decide
/-! What has failed stays so. -/
theorem number_bad {take : Int → Int × Int × Int} {st : St} (h : st.c ≠ 0) : number take st = (0, st) := by
  unfold number; rw [if_neg h]
theorem num_bad {s : ByteArray} {st : St} (h : st.c ≠ 0) : num s st = (0, st) := number_bad h
theorem nums_bad {s : ByteArray} {st : St} (h : st.c ≠ 0) : ∀ m, (nums s m st).2 = st
  | 0 => rfl
  | m + 1 => by
    have e := nums_bad h m (s := s)
    unfold nums
    rw [e, num_bad h]
theorem count_bad {s : ByteArray} {st : St} (h : st.c ≠ 0) : count s st = (0, st) := by
  unfold count; rw [number_bad h, if_neg (fun h' => h h'.1)]
theorem listN_bad {s : ByteArray} {st : St} (h : st.c ≠ 0) (n : Nat) (l : List Int) : (listN s n l st).2 = st := by
  cases n with
  | zero => rfl
  | succ n => unfold listN; rw [num_bad h, if_neg h]
theorem list_bad {s : ByteArray} {st : St} (h : st.c ≠ 0) : (list s st).2 = st := by
  unfold list; rw [count_bad h]; exact listN_bad h _ _
theorem text_bad {s : ByteArray} {st : St} (h : st.c ≠ 0) : (text s st).2 = st := by
  unfold text; rw [if_neg h]
theorem nodesN_bad {s : ByteArray} {st : St} (h : st.c ≠ 0) (n : Nat) (l : List S71) : (nodesN s n l st).2 = st := by
  cases n with
  | zero => rfl
  | succ n => unfold nodesN; rw [nums_bad h, if_neg h]
theorem routesN_bad {s : ByteArray} {st : St} (h : st.c ≠ 0) (n : Nat) (l : List (List Int)) : (routesN s n l st).2 = st := by
  cases n with
  | zero => rfl
  | succ n => unfold routesN; rw [list_bad h, if_neg h]
theorem fin_bad {s : ByteArray} {st : St} (h : st.c ≠ 0) : fin s st = st := by
  unfold fin; rw [if_neg (fun h' => h h'.1)]
theorem readE_bad {s : ByteArray} {st : St} (h : st.c ≠ 0) : readE s st = st := by
  have h1 : (readT s st).2 = st := text_bad h
  have h2 : (readH s st).2 = st := by unfold readH; rw [h1]; exact nums_bad h 5
  have h3 : (readC s st).2 = st := by unfold readC; rw [h2, count_bad h]
  have h4 : (readN s st).2 = st := by unfold readN; rw [h3]; exact nodesN_bad h _ _
  have h5 : (readM s st).2 = st := by unfold readM; rw [h4]; exact list_bad h
  unfold readE; rw [h5]; exact fin_bad h
theorem planE_bad {s : ByteArray} {st : St} (h : st.c ≠ 0) : planE s st = st := by
  have h1 : (planR s st).2 = st := by unfold planR; rw [count_bad h]; exact routesN_bad h _ _
  unfold planE; rw [h1]; exact fin_bad h
theorem get_bad {s : ByteArray} (h : (opened s 1).c ≠ 0) : get s = (Cn.zero, [((opened s 1).a, (opened s 1).c)]) := by
  unfold get; rw [readE_bad h, if_neg h]
theorem getPlan_bad {s : ByteArray} (h : (opened s 2).c ≠ 0) : getPlan s = ([], ((opened s 2).a, (opened s 2).c)) := by
  unfold getPlan; rw [planE_bad h, if_neg h]
/-! What is put is got back. -/
theorem S_dl (l : List UInt8) : (Evs.S l).data.toList = l := Evs.S_data l
def InP (n : Int) : Prop := -2305843009213693952 ≤ n ∧ n ≤ 2305843009213693951
theorem putI_in {n : Int} (h : InP n) : Pk.putI n = Pk.putU (Pk.zig n) := by
  unfold Pk.putI InP at *; rw [if_neg (by omega)]
theorem putI_pos {n : Int} (h : InP n) : 1 ≤ (Pk.putI n).length := by rw [putI_in h]; exact Pk.putU_len_pos _
theorem getI_put (n : Int) (h : InP n) (a b : List UInt8) : Pk.getI (a ++ Pk.putI n ++ b) (a.length : Int) = (n, a.length + (Pk.putI n).length, 0) := by
  unfold Pk.getI
  rw [putI_in h, Pk.getU_put _ _ _ (Nat.lt_of_lt_of_le (Evs.zig_lt n h.1 h.2) (by decide))]
  rw [Pk.zag_zig]
theorem num_at (n : Int) (h : InP n) (a b : List UInt8) (q : Int) : num (Evs.S (a ++ Pk.putI n ++ b)) ⟨a.length, q, 0⟩ = (n, ⟨((a ++ Pk.putI n).length : Nat), q, 0⟩) := by
  unfold num number gi
  rw [S_dl, getI_put n h a b, if_pos rfl, List.length_append]
  exact if_pos rfl
theorem ints_cons (x : Int) (l : List Int) : Pp.ints (x :: l) = Pk.putI x ++ Pp.ints l := by unfold Pp.ints; rw [List.flatMap_cons]
theorem ints_nil : Pp.ints [] = [] := rfl
theorem ints_append (l m : List Int) : Pp.ints (l ++ m) = Pp.ints l ++ Pp.ints m := by unfold Pp.ints; rw [List.flatMap_append]
theorem ints_low (l : List Int) (h : ∀ x ∈ l, InP x) : l.length ≤ (Pp.ints l).length := by
  induction l with
  | nil => simp
  | cons x l ih =>
    rw [ints_cons, List.length_append, List.length_cons]
    have := putI_pos (h x (by simp))
    have := ih (fun y hy => h y (by simp [hy]))
    omega
theorem nums_at (l : List Int) (h : ∀ x ∈ l, InP x) (a b : List UInt8) (q : Int) : ∀ k, k ≤ l.length → nums (Evs.S (a ++ Pp.ints l ++ b)) k ⟨a.length, q, 0⟩ = (l.take k, ⟨((a ++ Pp.ints (l.take k)).length : Nat), q, 0⟩) := by
  intro k
  induction k with
  | zero => intro _; simp [nums, ints_nil]
  | succ k ih =>
    intro hk
    have e := ih (by omega)
    unfold nums
    rw [e]
    have hx : l.getD k 0 ∈ l := by
      rw [List.getD_eq_getElem?_getD, List.getElem?_eq_getElem (by omega)]; exact List.getElem_mem _
    have hsp : a ++ Pp.ints l ++ b = (a ++ Pp.ints (l.take k)) ++ Pk.putI (l.getD k 0) ++ (Pp.ints (l.drop (k + 1)) ++ b) := by
      have h1 : Pp.ints l = Pp.ints (l.take (k + 1)) ++ Pp.ints (l.drop (k + 1)) := by rw [← ints_append, List.take_append_drop]
      rw [h1, Pp.ints_take l k (by omega)]
      simp
    rw [hsp, num_at _ (h _ hx)]
    refine Prod.ext ?_ ?_
    · show l.take k ++ [l.getD k 0] = l.take (k + 1)
      rw [List.take_succ_eq_append_getElem (show k < l.length by omega), List.getD_eq_getElem?_getD, List.getElem?_eq_getElem (by omega)]; rfl
    · show (⟨((a ++ Pp.ints (l.take k) ++ Pk.putI (l.getD k 0)).length : Nat), q, 0⟩ : St) = ⟨((a ++ Pp.ints (l.take (k + 1))).length : Nat), q, 0⟩
      rw [Pp.ints_take l k (by omega), List.append_assoc]
theorem nums_all (l : List Int) (h : ∀ x ∈ l, InP x) (a b : List UInt8) (q : Int) {m : Nat} (hm : m = l.length) : nums (Evs.S (a ++ Pp.ints l ++ b)) m ⟨a.length, q, 0⟩ = (l, ⟨((a ++ Pp.ints l).length : Nat), q, 0⟩) := by
  subst hm
  have := nums_at l h a b q l.length (Nat.le_refl _)
  rw [List.take_length] at this
  exact this
theorem listN_at (l : List Int) (h : ∀ x ∈ l, InP x) : ∀ (d : List Int) (a b : List UInt8) (q : Int), listN (Evs.S (a ++ Pp.ints l ++ b)) l.length d ⟨a.length, q, 0⟩ = (d ++ l, ⟨((a ++ Pp.ints l).length : Nat), q, 0⟩) := by
  induction l with
  | nil => intro d a b q; simp [listN, ints_nil]
  | cons x l ih =>
    intro d a b q
    have e : a ++ Pp.ints (x :: l) ++ b = a ++ Pk.putI x ++ (Pp.ints l ++ b) := by rw [ints_cons]; simp
    rw [List.length_cons, e]
    unfold listN
    rw [num_at x (h x (by simp)), if_pos rfl]
    have := ih (fun y hy => h y (by simp [hy])) (d ++ [x]) (a ++ Pk.putI x) b q
    rw [show a ++ Pk.putI x ++ (Pp.ints l ++ b) = a ++ Pk.putI x ++ Pp.ints l ++ b by simp]
    refine this.trans ?_
    rw [ints_cons]
    simp
theorem count_at (m : Nat) (hm : m < 9223372036854775808) (a b : List UInt8) (hb : m ≤ b.length) (q : Int) : count (Evs.S (a ++ Pk.putUI m ++ b)) ⟨a.length, q, 0⟩ = ((m : Int), ⟨((a ++ Pk.putUI m).length : Nat), q, 0⟩) := by
  have e : number (gu (Evs.S (a ++ Pk.putUI m ++ b))) ⟨a.length, q, 0⟩ = ((m : Int), ⟨((a ++ Pk.putUI m).length : Nat), q, 0⟩) := by
    unfold number gu
    rw [S_dl, Evs.putUI_of, Pk.getU_put m a b hm, if_pos rfl, List.length_append]
    exact if_pos rfl
  unfold count
  rw [e, if_neg]
  intro h
  have := h.2
  rw [Evs.S_size] at this
  simp only [List.length_append] at this
  omega
theorem list_at (l : List Int) (h : ∀ x ∈ l, InP x) (hl : l.length < 9223372036854775808) (a b : List UInt8) (q : Int) : list (Evs.S (a ++ Pp.list l ++ b)) ⟨a.length, q, 0⟩ = (l, ⟨((a ++ Pp.list l).length : Nat), q, 0⟩) := by
  unfold list
  have e : a ++ Pp.list l ++ b = a ++ Pk.putUI l.length ++ (Pp.ints l ++ b) := by unfold Pp.list; simp
  rw [e, count_at l.length hl _ _ (by rw [List.length_append]; have := ints_low l h; omega), Int.toNat_natCast]
  have e2 : a ++ Pk.putUI l.length ++ (Pp.ints l ++ b) = a ++ Pk.putUI l.length ++ Pp.ints l ++ b := by simp
  rw [e2, listN_at l h]
  unfold Pp.list
  simp
theorem getT_put (t a b : List UInt8) (ht : t.length < 9223372036854775808) : Pk.getT (a ++ Pk.putT t ++ b) (a.length : Int) = (t, (a ++ Pk.putT t).length, 0) := by
  have e : a ++ Pk.putT t ++ b = a ++ Pk.putU t.length ++ (t ++ b) := by unfold Pk.putT; simp
  unfold Pk.getT
  rw [e, Pk.getU_put _ _ _ ht]
  simp only [ne_eq, not_true_eq_false, if_false]
  rw [if_neg (by simp; omega)]
  refine Prod.ext ?_ (Prod.ext ?_ rfl)
  · show ((a ++ Pk.putU t.length ++ (t ++ b)).drop (a.length + (Pk.putU t.length).length)).take t.length = t
    rw [← List.length_append, List.drop_left, List.take_left]
  · show a.length + (Pk.putU t.length).length + t.length = _
    unfold Pk.putT; simp; omega
theorem text_at (t : ByteArray) (ht : t.size < 9223372036854775808) (a b : List UInt8) (q : Int) : text (Evs.S (a ++ Pk.putT t.data.toList ++ b)) ⟨a.length, q, 0⟩ = (t, ⟨((a ++ Pk.putT t.data.toList).length : Nat), q, 0⟩) := by
  unfold text gt
  rw [S_dl, getT_put t.data.toList a b ht, if_pos rfl]
  refine (if_pos rfl).trans ?_
  show (Evs.S t.data.toList, _) = _
  rw [Evs.S_of]
  rfl
theorem nodes_cons (x : S71) (l : List S71) : Pp.nodes (x :: l) = Pp.ints (Pp.nums x) ++ Pp.nodes l := by unfold Pp.nodes; rw [List.flatMap_cons]
theorem nodeOf_nums (d : S71) : nodeOf (Pp.nums d) = d := rfl
def NodeP (d : S71) : Prop := ∀ x ∈ Pp.nums d, InP x
theorem nodes_low (l : List S71) (h : ∀ d ∈ l, NodeP d) : l.length ≤ (Pp.nodes l).length := by
  induction l with
  | nil => simp
  | cons x l ih =>
    rw [nodes_cons, List.length_append, List.length_cons]
    have h1 := ints_low (Pp.nums x) (h x (by simp))
    have h2 : (Pp.nums x).length = 7 := rfl
    have := ih (fun y hy => h y (by simp [hy]))
    omega
theorem nodesN_at (l : List S71) (h : ∀ d ∈ l, NodeP d) : ∀ (e : List S71) (a b : List UInt8) (q : Int), nodesN (Evs.S (a ++ Pp.nodes l ++ b)) l.length e ⟨a.length, q, 0⟩ = (e ++ l, ⟨((a ++ Pp.nodes l).length : Nat), q, 0⟩) := by
  induction l with
  | nil => intro d a b q; simp [nodesN, Pp.nodes]
  | cons x l ih =>
    intro d a b q
    have e : a ++ Pp.nodes (x :: l) ++ b = a ++ Pp.ints (Pp.nums x) ++ (Pp.nodes l ++ b) := by rw [nodes_cons]; simp
    rw [List.length_cons, e]
    unfold nodesN
    rw [nums_all (Pp.nums x) (h x (by simp)) a (Pp.nodes l ++ b) q (m := 7) rfl, if_pos rfl, nodeOf_nums]
    have := ih (fun y hy => h y (by simp [hy])) (d ++ [x]) (a ++ Pp.ints (Pp.nums x)) b q
    rw [show a ++ Pp.ints (Pp.nums x) ++ (Pp.nodes l ++ b) = a ++ Pp.ints (Pp.nums x) ++ Pp.nodes l ++ b by simp]
    refine this.trans ?_
    rw [nodes_cons]
    simp
theorem lists_cons (x : List Int) (l : List (List Int)) : (x :: l).flatMap Pp.list = Pp.list x ++ l.flatMap Pp.list := List.flatMap_cons
def RowP (r : List Int) : Prop := (∀ x ∈ r, InP x) ∧ r.length < 9223372036854775808
theorem list_low (r : List Int) : 1 ≤ (Pp.list r).length := by
  unfold Pp.list
  rw [Evs.putUI_of, List.length_append]
  have := Pk.putU_len_pos r.length
  omega
theorem lists_low (l : List (List Int)) : l.length ≤ (l.flatMap Pp.list).length := by
  induction l with
  | nil => simp
  | cons x l ih =>
    rw [lists_cons, List.length_append, List.length_cons]
    have := list_low x
    omega
theorem routesN_at (l : List (List Int)) (h : ∀ r ∈ l, RowP r) : ∀ (e : List (List Int)) (a b : List UInt8) (q : Int), routesN (Evs.S (a ++ l.flatMap Pp.list ++ b)) l.length e ⟨a.length, q, 0⟩ = (e ++ l, ⟨((a ++ l.flatMap Pp.list).length : Nat), q, 0⟩) := by
  induction l with
  | nil => intro d a b q; simp [routesN]
  | cons x l ih =>
    intro d a b q
    have e : a ++ (x :: l).flatMap Pp.list ++ b = a ++ Pp.list x ++ (l.flatMap Pp.list ++ b) := by rw [lists_cons]; simp
    rw [List.length_cons, e]
    unfold routesN
    rw [list_at x (h x (by simp)).1 (h x (by simp)).2 a _ q, if_pos rfl]
    have := ih (fun y hy => h y (by simp [hy])) (d ++ [x]) (a ++ Pp.list x) b q
    rw [show a ++ Pp.list x ++ (l.flatMap Pp.list ++ b) = a ++ Pp.list x ++ l.flatMap Pp.list ++ b by simp]
    refine this.trans ?_
    rw [lists_cons]
    simp
end Rr
end Go.Proofs.YtofklpphalalhaaGreatDoor
end
section
namespace Go.Proofs.YtofklpphalalhaaGreatDoor
set_option linter.unusedVariables false
set_option linter.unusedSimpArgs false
open Go.RowKit Go.Proofs.YtofklpphalalhaaGreatDoor.PAll
namespace Rr
/-- An instance whose numbers can be put. -/
structure InstP (x : Cn.In) : Prop where
  nm : x.nm.size < 9223372036854775808
  fs : ∀ n ∈ [x.kind, x.metric, x.scale, x.cap, x.fleet], InP n
  nodes : ∀ d ∈ x.nodes, NodeP d
  nlen : x.nodes.length < 9223372036854775808
  mx : ∀ n ∈ x.mx, InP n
  mlen : x.mx.length < 9223372036854775808
def A1 (x : Cn.In) : List UInt8 := [69, 80, 84, 1] ++ Pk.putT x.nm.data.toList
def A2 (x : Cn.In) : List UInt8 := A1 x ++ Pp.ints [x.kind, x.metric, x.scale, x.cap, x.fleet]
def A3 (x : Cn.In) : List UInt8 := A2 x ++ Pk.putUI x.nodes.length
def A4 (x : Cn.In) : List UInt8 := A3 x ++ Pp.nodes x.nodes
theorem inst_eq (x : Cn.In) : Pp.inst x = A4 x ++ Pp.list x.mx := by unfold Pp.inst A4 A3 A2 A1; simp
theorem read_inst (x : Cn.In) (hx : InstP x) (e : List UInt8) : readT (Evs.S (Pp.inst x ++ e)) ⟨4, 0, 0⟩ = (x.nm, ⟨((A1 x).length : Nat), 0, 0⟩) ∧ readH (Evs.S (Pp.inst x ++ e)) ⟨4, 0, 0⟩ = ([x.kind, x.metric, x.scale, x.cap, x.fleet], ⟨((A2 x).length : Nat), 0, 0⟩) ∧
    readC (Evs.S (Pp.inst x ++ e)) ⟨4, 0, 0⟩ = ((x.nodes.length : Int), ⟨((A3 x).length : Nat), 0, 0⟩) ∧ readN (Evs.S (Pp.inst x ++ e)) ⟨4, 0, 0⟩ = (x.nodes, ⟨((A4 x).length : Nat), 0, 0⟩) ∧ readM (Evs.S (Pp.inst x ++ e)) ⟨4, 0, 0⟩ = (x.mx, ⟨((Pp.inst x).length : Nat), 0, 0⟩) := by
  obtain ⟨T, hT⟩ : ∃ T, Pp.inst x ++ e = T := ⟨_, rfl⟩
  rw [hT]
  have t1 : T = [69, 80, 84, 1] ++ Pk.putT x.nm.data.toList ++ (Pp.ints [x.kind, x.metric, x.scale, x.cap, x.fleet] ++ (Pk.putUI x.nodes.length ++ (Pp.nodes x.nodes ++ (Pp.list x.mx ++ e)))) := by rw [← hT, inst_eq]; unfold A4 A3 A2 A1; simp
  have t2 : T = A1 x ++ Pp.ints [x.kind, x.metric, x.scale, x.cap, x.fleet] ++ (Pk.putUI x.nodes.length ++ (Pp.nodes x.nodes ++ (Pp.list x.mx ++ e))) := by rw [← hT, inst_eq]; unfold A4 A3 A2 A1; simp
  have t3 : T = A2 x ++ Pk.putUI x.nodes.length ++ (Pp.nodes x.nodes ++ (Pp.list x.mx ++ e)) := by rw [← hT, inst_eq]; unfold A4 A3 A2 A1; simp
  have t4 : T = A3 x ++ Pp.nodes x.nodes ++ (Pp.list x.mx ++ e) := by rw [← hT, inst_eq]; unfold A4 A3 A2 A1; simp
  have t5 : T = A4 x ++ Pp.list x.mx ++ e := by rw [← hT, inst_eq]
  have r1 : readT (Evs.S T) ⟨4, 0, 0⟩ = (x.nm, ⟨((A1 x).length : Nat), 0, 0⟩) := by
    unfold readT
    rw [t1]
    exact text_at x.nm hx.nm [69, 80, 84, 1] _ 0
  have r2 : readH (Evs.S T) ⟨4, 0, 0⟩ = ([x.kind, x.metric, x.scale, x.cap, x.fleet], ⟨((A2 x).length : Nat), 0, 0⟩) := by
    unfold readH
    rw [r1]
    rw [t2]
    exact nums_all [x.kind, x.metric, x.scale, x.cap, x.fleet] hx.fs (A1 x) _ 0 rfl
  have r3 : readC (Evs.S T) ⟨4, 0, 0⟩ = ((x.nodes.length : Int), ⟨((A3 x).length : Nat), 0, 0⟩) := by
    unfold readC
    rw [r2]
    rw [t3]
    exact count_at x.nodes.length hx.nlen (A2 x) _ (by rw [List.length_append]; have := nodes_low x.nodes hx.nodes; omega) 0
  have r4 : readN (Evs.S T) ⟨4, 0, 0⟩ = (x.nodes, ⟨((A4 x).length : Nat), 0, 0⟩) := by
    unfold readN
    rw [r3]
    rw [t4]
    exact nodesN_at x.nodes hx.nodes [] (A3 x) _ 0
  refine ⟨r1, r2, r3, r4, ?_⟩
  unfold readM
  rw [r4, inst_eq]
  rw [t5]
  exact list_at x.mx hx.mx hx.mlen (A4 x) e 0
theorem readX_inst (x : Cn.In) (hx : InstP x) (e : List UInt8) : readX (Evs.S (Pp.inst x ++ e)) ⟨4, 0, 0⟩ = x := by
  obtain ⟨r1, r2, r3, r4, r5⟩ := read_inst x hx e
  unfold readX
  rw [r1, r2, r4, r5]
  rfl
theorem opn_of (l : List UInt8) : opT (Evs.S (Pk.shut l)) = Evs.S l ∧ opE (Evs.S (Pk.shut l)) = 0 := by
  unfold opT opE
  rw [Evs.S_data, Pk.opn_shut]
  exact ⟨rfl, rfl⟩
theorem opened_of (l : List UInt8) (k : UInt8) : opened (Evs.S (Pk.shut l)) k = if l.take 4 = [69, 80, 84, k] then ⟨4, 0, 0⟩ else ⟨4, 0, 220⟩ := by
  unfold opened
  rw [(opn_of l).1, (opn_of l).2, Evs.S_data, if_neg (by decide), if_neg (by simp)]
theorem inst_take (x : Cn.In) (e : List UInt8) : (Pp.inst x ++ e).take 4 = [69, 80, 84, 1] := by unfold Pp.inst; simp
theorem plan_take (rs : List (List Int)) (e : List UInt8) : (Pp.plan rs ++ e).take 4 = [69, 80, 84, 2] := by unfold Pp.plan; simp
theorem inst_len (x : Cn.In) : 4 ≤ (Pp.inst x).length := by unfold Pp.inst; simp
theorem plan_len (rs : List (List Int)) : 4 ≤ (Pp.plan rs).length := by unfold Pp.plan; simp
theorem fin_done (t : List UInt8) : fin (Evs.S t) ⟨(t.length : Nat), 0, 0⟩ = ⟨(t.length : Nat), 0, 0⟩ := by
  unfold fin
  rw [if_neg]
  intro h
  have h2 : 0 < ((Evs.S t).size : Int) - (t.length : Int) := h.2
  rw [Evs.S_size] at h2
  omega
theorem fin_more (t : List UInt8) (m : UInt8) : fin (Evs.S (t ++ [m])) ⟨(t.length : Nat), 0, 0⟩ = ⟨(t.length : Nat), (t.length : Nat), 4⟩ := by
  unfold fin
  rw [if_pos]
  refine ⟨rfl, ?_⟩
  show 0 < ((Evs.S (t ++ [m])).size : Int) - (t.length : Int)
  rw [Evs.S_size, List.length_append, List.length_singleton]
  omega
/-- What is put is got back. -/
theorem get_back (x : Cn.In) (hx : InstP x) : get (Evs.S (Pk.shut (Pp.inst x))) = Cn.told x := by
  have h0 : opened (Evs.S (Pk.shut (Pp.inst x))) 1 = ⟨4, 0, 0⟩ := by rw [opened_of, if_pos (by have := inst_take x []; simpa using this)]
  have r := (read_inst x hx []).2.2.2.2
  have rx := readX_inst x hx []
  rw [List.append_nil] at r rx
  have e : readE (Evs.S (Pp.inst x)) ⟨4, 0, 0⟩ = ⟨((Pp.inst x).length : Nat), 0, 0⟩ := by
    unfold readE; rw [r]; exact fin_done _
  unfold get
  rw [(opn_of _).1, h0, rx, e, if_pos rfl]
/-- A byte more: one too many. -/
theorem get_more (x : Cn.In) (hx : InstP x) (m : UInt8) : get (Evs.S (Pk.shut (Pp.inst x ++ [m]))) = (Cn.zero, [((((Pp.inst x).length : Nat) : Int), (4 : Int))]) := by
  have h0 : opened (Evs.S (Pk.shut (Pp.inst x ++ [m]))) 1 = ⟨4, 0, 0⟩ := by rw [opened_of, if_pos (inst_take x [m])]
  have r := (read_inst x hx [m]).2.2.2.2
  have e : readE (Evs.S (Pp.inst x ++ [m])) ⟨4, 0, 0⟩ = ⟨((Pp.inst x).length : Nat), ((Pp.inst x).length : Nat), 4⟩ := by
    unfold readE; rw [r]; exact fin_more _ m
  unfold get
  rw [(opn_of _).1, h0, e, if_neg n4]
theorem read_plan (rs : List (List Int)) (h : ∀ r ∈ rs, RowP r) (hl : rs.length < 9223372036854775808) (e : List UInt8) : count (Evs.S (Pp.plan rs ++ e)) ⟨4, 0, 0⟩ = ((rs.length : Int), ⟨(([69, 80, 84, 2] ++ Pk.putUI rs.length).length : Nat), 0, 0⟩) ∧ planR (Evs.S (Pp.plan rs ++ e)) ⟨4, 0, 0⟩ = (rs, ⟨((Pp.plan rs).length : Nat), 0, 0⟩) := by
  have t1 : Pp.plan rs ++ e = [69, 80, 84, 2] ++ Pk.putUI rs.length ++ (rs.flatMap Pp.list ++ e) := by unfold Pp.plan; simp
  have t2 : Pp.plan rs ++ e = [69, 80, 84, 2] ++ Pk.putUI rs.length ++ rs.flatMap Pp.list ++ e := by unfold Pp.plan; simp
  have r1 : count (Evs.S (Pp.plan rs ++ e)) ⟨4, 0, 0⟩ = ((rs.length : Int), ⟨(([69, 80, 84, 2] ++ Pk.putUI rs.length).length : Nat), 0, 0⟩) := by
    rw [t1]
    exact count_at rs.length hl [69, 80, 84, 2] _ (by rw [List.length_append]; have := lists_low rs; omega) 0
  refine ⟨r1, ?_⟩
  unfold planR
  rw [r1, t2]
  exact routesN_at rs h [] ([69, 80, 84, 2] ++ Pk.putUI rs.length) e 0
theorem getPlan_back (rs : List (List Int)) (h : ∀ r ∈ rs, RowP r) (hl : rs.length < 9223372036854775808) : getPlan (Evs.S (Pk.shut (Pp.plan rs))) = (rs, (0, 0)) := by
  have h0 : opened (Evs.S (Pk.shut (Pp.plan rs))) 2 = ⟨4, 0, 0⟩ := by rw [opened_of, if_pos (by have := plan_take rs []; simpa using this)]
  have r := (read_plan rs h hl []).2
  rw [List.append_nil] at r
  have e : planE (Evs.S (Pp.plan rs)) ⟨4, 0, 0⟩ = ⟨((Pp.plan rs).length : Nat), 0, 0⟩ := by
    unfold planE; rw [r]; exact fin_done _
  unfold getPlan
  rw [(opn_of _).1, h0, e, if_pos rfl, r]
theorem getPlan_more (rs : List (List Int)) (h : ∀ r ∈ rs, RowP r) (hl : rs.length < 9223372036854775808) (m : UInt8) : getPlan (Evs.S (Pk.shut (Pp.plan rs ++ [m]))) = ([], ((((Pp.plan rs).length : Nat) : Int), (4 : Int))) := by
  have h0 : opened (Evs.S (Pk.shut (Pp.plan rs ++ [m]))) 2 = ⟨4, 0, 0⟩ := by rw [opened_of, if_pos (plan_take rs [m])]
  have r := (read_plan rs h hl [m]).2
  have e : planE (Evs.S (Pp.plan rs ++ [m])) ⟨4, 0, 0⟩ = ⟨((Pp.plan rs).length : Nat), ((Pp.plan rs).length : Nat), 4⟩ := by
    unfold planE; rw [r]; exact fin_more _ m
  unfold getPlan
  rw [(opn_of _).1, h0, e, if_neg n4]
/-- Neither is taken for the other one. -/
theorem get_plan (rs : List (List Int)) : get (Evs.S (Pk.shut (Pp.plan rs))) = (Cn.zero, [(0, 220)]) := by
  have h0 : opened (Evs.S (Pk.shut (Pp.plan rs))) 1 = ⟨4, 0, 220⟩ := by rw [opened_of, if_neg (by have := plan_take rs []; rw [List.append_nil] at this; rw [this]; decide)]
  rw [get_bad (by rw [h0]; decide), h0]
theorem getPlan_inst (x : Cn.In) : getPlan (Evs.S (Pk.shut (Pp.inst x))) = ([], (0, 220)) := by
  have h0 : opened (Evs.S (Pk.shut (Pp.inst x))) 2 = ⟨4, 0, 220⟩ := by rw [opened_of, if_neg (by have := inst_take x []; rw [List.append_nil] at this; rw [this]; decide)]
  rw [getPlan_bad (by rw [h0]; decide), h0]
/-- Refused by the sum. -/
theorem opened_sum (s : ByteArray) (k : UInt8) (h : Pk.opn s.data.toList = ([], 210)) : opened s k = ⟨4, (s.size : Int) - 4, 210⟩ := by
  unfold opened opE
  rw [h, if_neg (by decide), if_pos (by decide)]
  rfl
theorem get_sum (s : ByteArray) (h : Pk.opn s.data.toList = ([], 210)) : get s = (Cn.zero, [((s.size : Int) - 4, 210)]) := by
  have h0 := opened_sum s 1 h
  rw [get_bad (by rw [h0]; exact n210), h0]
theorem getPlan_sum (s : ByteArray) (h : Pk.opn s.data.toList = ([], 210)) : getPlan s = ([], ((s.size : Int) - 4, 210)) := by
  have h0 := opened_sum s 2 h
  rw [getPlan_bad (by rw [h0]; exact n210), h0]
/-! Cut off. -/
def Bad (i : Nat) (st : St) : Prop := st.c = 211 ∧ 0 ≤ st.a ∧ st.a ≤ i
theorem Bad.ne {i : Nat} {st : St} (h : Bad i st) : st.c ≠ 0 := by rw [h.1]; decide
/-- A reader of a text that is cut off at i goes as the whole text's one does, or is too short. -/
def Sm {α : Type} (i : Nat) (x y : α × St) : Prop := Bad i y.2 ∨ (y = x ∧ 0 ≤ x.2.p ∧ x.2.p ≤ i)
theorem number_sm {tf tc : Int → Int × Int × Int} {i : Nat} (hext : ∀ p, (tc p).2.2 = 211 ∨ tf p = tc p) (hend : ∀ p, (tc p).2.2 = 0 → 0 ≤ (tc p).2.1 ∧ (tc p).2.1 ≤ i) {st : St} (h0 : st.c = 0) (hp : 0 ≤ st.p ∧ st.p ≤ i) (hF : (number tf st).2.c = 0) : Sm i (number tf st) (number tc st) := by
  unfold number at *
  rw [if_pos h0] at *
  rw [if_pos h0]
  rcases hext st.p with h | h
  · left
    rw [if_neg (by rw [h]; decide)]
    exact ⟨h, hp⟩
  · rw [h] at hF ⊢
    by_cases h1 : (tc st.p).2.2 = 0
    · rw [if_pos h1]
      exact .inr ⟨rfl, hend _ h1⟩
    · rw [if_neg h1] at hF
      exact absurd hF h1
variable {a b : List UInt8} {st : St}
theorem gi_ext (a b : List UInt8) (p : Int) : (gi (Evs.S a) p).2.2 = 211 ∨ gi (Evs.S (a ++ b)) p = gi (Evs.S a) p := by
  unfold gi
  rw [Evs.S_data, Evs.S_data]
  rcases Pk2.getI_ext a b p with h | h
  · left; unfold Evs.t3i; simp [h]
  · right; rw [h]
theorem gu_ext (a b : List UInt8) (p : Int) : (gu (Evs.S a) p).2.2 = 211 ∨ gu (Evs.S (a ++ b)) p = gu (Evs.S a) p := by
  unfold gu
  rw [Evs.S_data, Evs.S_data]
  rcases Pk2.getU_ext a b p with h | h
  · left; unfold Evs.t3; simp [h]
  · right; rw [h]
theorem gt_ext (a b : List UInt8) (p : Int) : (gt (Evs.S a) p).2.2 = 211 ∨ gt (Evs.S (a ++ b)) p = gt (Evs.S a) p := by
  unfold gt
  rw [Evs.S_data, Evs.S_data]
  rcases Pk2.getT_ext a b p with h | h
  · left; unfold Evs.t3t; simp [h]
  · right; rw [h]
theorem num_sm (h0 : st.c = 0) (hp : 0 ≤ st.p ∧ st.p ≤ a.length) (hF : (num (Evs.S (a ++ b)) st).2.c = 0) : Sm a.length (num (Evs.S (a ++ b)) st) (num (Evs.S a) st) :=
  number_sm (gi_ext a b) (fun p h => by have := gi_end (Evs.S a) p h; rw [Evs.S_size] at this; exact this) h0 hp hF
theorem num_c (s : ByteArray) (h : (num s st).2.c = 0) : st.c = 0 := by
  by_cases h0 : st.c = 0
  · exact h0
  · rw [num_bad h0] at h; exact absurd h h0
theorem nums_sm (h0 : st.c = 0) (hp : 0 ≤ st.p ∧ st.p ≤ a.length) : ∀ m, (nums (Evs.S (a ++ b)) m st).2.c = 0 → Sm a.length (nums (Evs.S (a ++ b)) m st) (nums (Evs.S a) m st)
  | 0, _ => .inr ⟨rfl, hp⟩
  | m + 1, hF => by
    unfold nums at hF ⊢
    have h1 := num_c _ hF
    rcases nums_sm h0 hp m h1 with h | ⟨h, hq⟩
    · left; rw [num_bad h.ne]; exact h
    · rw [h]
      rcases num_sm h1 hq hF with h' | ⟨h', hq'⟩
      · exact .inl h'
      · right; rw [h']; exact ⟨rfl, hq'⟩
theorem count_sm (h0 : st.c = 0) (hp : 0 ≤ st.p ∧ st.p ≤ a.length) (hF : (count (Evs.S (a ++ b)) st).2.c = 0) : Sm a.length (count (Evs.S (a ++ b)) st) (count (Evs.S a) st) := by
  have hF1 : (number (gu (Evs.S (a ++ b))) st).2.c = 0 := by
    unfold count at hF
    split at hF
    · exact absurd hF n211
    · exact hF
  have hN : ¬ ((number (gu (Evs.S (a ++ b))) st).2.c = 0 ∧ ((Evs.S (a ++ b)).size : Int) - (number (gu (Evs.S (a ++ b))) st).2.p < (number (gu (Evs.S (a ++ b))) st).1) := by
    intro h
    unfold count at hF
    rw [if_pos h] at hF
    exact absurd hF n211
  unfold count
  rw [if_neg hN]
  rcases number_sm (gu_ext a b) (fun p h => by have := gu_end (Evs.S a) p h; rw [Evs.S_size] at this; exact this) h0 hp hF1 with h | ⟨h, hq⟩
  · left
    rw [if_neg (fun h' => h.ne h'.1)]; exact h
  · rw [h]
    by_cases h1 : (number (gu (Evs.S (a ++ b))) st).2.c = 0 ∧ ((Evs.S a).size : Int) - (number (gu (Evs.S (a ++ b))) st).2.p < (number (gu (Evs.S (a ++ b))) st).1
    · rw [if_pos h1]; exact .inl ⟨rfl, hp⟩
    · rw [if_neg h1]; exact .inr ⟨rfl, hq⟩
theorem listN_sm : ∀ (n : Nat) (l : List Int) (st : St), st.c = 0 → 0 ≤ st.p ∧ st.p ≤ a.length → (listN (Evs.S (a ++ b)) n l st).2.c = 0 → Sm a.length (listN (Evs.S (a ++ b)) n l st) (listN (Evs.S a) n l st)
  | 0, l, st, h0, hp, _ => .inr ⟨rfl, hp⟩
  | n + 1, l, st, h0, hp, hF => by
    unfold listN at hF ⊢
    by_cases h1 : (num (Evs.S (a ++ b)) st).2.c = 0
    · rw [if_pos h1] at hF ⊢
      rcases num_sm h0 hp h1 with h | ⟨h, hq⟩
      · left; rw [if_neg h.ne]; exact h
      · rw [h, if_pos h1]
        exact listN_sm n _ _ h1 hq hF
    · rw [if_neg h1] at hF; exact absurd hF h1
theorem list_sm (h0 : st.c = 0) (hp : 0 ≤ st.p ∧ st.p ≤ a.length) (hF : (list (Evs.S (a ++ b)) st).2.c = 0) : Sm a.length (list (Evs.S (a ++ b)) st) (list (Evs.S a) st) := by
  have h1 : (count (Evs.S (a ++ b)) st).2.c = 0 := by
    by_cases h1 : (count (Evs.S (a ++ b)) st).2.c = 0
    · exact h1
    · unfold list at hF; rw [listN_bad h1] at hF; exact absurd hF h1
  unfold list at hF ⊢
  rcases count_sm h0 hp h1 with h | ⟨h, hq⟩
  · left; rw [listN_bad h.ne]; exact h
  · rw [h]; exact listN_sm _ _ _ h1 hq hF
theorem text_sm (h0 : st.c = 0) (hp : 0 ≤ st.p ∧ st.p ≤ a.length) (hF : (text (Evs.S (a ++ b)) st).2.c = 0) : Sm a.length (text (Evs.S (a ++ b)) st) (text (Evs.S a) st) := by
  unfold text at *
  rw [if_pos h0] at *
  rw [if_pos h0]
  rcases gt_ext a b st.p with h | h
  · left
    rw [if_neg (by rw [h]; decide)]
    exact ⟨h, hp⟩
  · rw [h] at hF ⊢
    by_cases h1 : (gt (Evs.S a) st.p).2.2 = 0
    · rw [if_pos h1]
      have := gt_end (Evs.S a) _ h1
      rw [Evs.S_size] at this
      exact .inr ⟨rfl, this⟩
    · rw [if_neg h1] at hF
      exact absurd hF h1
theorem nodesN_sm : ∀ (n : Nat) (l : List S71) (st : St), st.c = 0 → 0 ≤ st.p ∧ st.p ≤ a.length → (nodesN (Evs.S (a ++ b)) n l st).2.c = 0 → Sm a.length (nodesN (Evs.S (a ++ b)) n l st) (nodesN (Evs.S a) n l st)
  | 0, l, st, h0, hp, _ => .inr ⟨rfl, hp⟩
  | n + 1, l, st, h0, hp, hF => by
    unfold nodesN at hF ⊢
    by_cases h1 : (nums (Evs.S (a ++ b)) 7 st).2.c = 0
    · rw [if_pos h1] at hF ⊢
      rcases nums_sm h0 hp 7 h1 with h | ⟨h, hq⟩
      · left; rw [if_neg h.ne]; exact h
      · rw [h, if_pos h1]
        exact nodesN_sm n _ _ h1 hq hF
    · rw [if_neg h1] at hF; exact absurd hF h1
theorem routesN_sm : ∀ (n : Nat) (l : List (List Int)) (st : St), st.c = 0 → 0 ≤ st.p ∧ st.p ≤ a.length → (routesN (Evs.S (a ++ b)) n l st).2.c = 0 → Sm a.length (routesN (Evs.S (a ++ b)) n l st) (routesN (Evs.S a) n l st)
  | 0, l, st, h0, hp, _ => .inr ⟨rfl, hp⟩
  | n + 1, l, st, h0, hp, hF => by
    unfold routesN at hF ⊢
    by_cases h1 : (list (Evs.S (a ++ b)) st).2.c = 0
    · rw [if_pos h1] at hF ⊢
      rcases list_sm h0 hp h1 with h | ⟨h, hq⟩
      · left; rw [if_neg h.ne]; exact h
      · rw [h, if_pos h1]
        exact routesN_sm n _ _ h1 hq hF
    · rw [if_neg h1] at hF; exact absurd hF h1
theorem cut_inst (x : Cn.In) (hx : InstP x) (a b : List UInt8) (hab : a ++ b = Pp.inst x) (ha : 4 ≤ a.length) (hb : b ≠ []) : Bad a.length (readM (Evs.S a) ⟨4, 0, 0⟩).2 := by
  obtain ⟨r1, r2, r3, r4, r5⟩ := read_inst x hx []
  rw [List.append_nil, ← hab] at r1 r2 r3 r4 r5
  have hlen : (Pp.inst x).length = a.length + b.length := by rw [← hab, List.length_append]
  have hbl : 0 < b.length := List.length_pos_iff.2 hb
  have s1 : Sm a.length (readT (Evs.S (a ++ b)) ⟨4, 0, 0⟩) (readT (Evs.S a) ⟨4, 0, 0⟩) := text_sm rfl ⟨by decide, by show (4 : Int) ≤ _; omega⟩ (by show (readT _ _).2.c = 0; rw [r1])
  have s2 : Sm a.length (readH (Evs.S (a ++ b)) ⟨4, 0, 0⟩) (readH (Evs.S a) ⟨4, 0, 0⟩) := by
    unfold readH
    rcases s1 with h | ⟨h, hq⟩
    · left; rw [nums_bad h.ne]; exact h
    · rw [h]; exact nums_sm (by rw [r1]) hq 5 (by show (readH _ _).2.c = 0; rw [r2])
  have s3 : Sm a.length (readC (Evs.S (a ++ b)) ⟨4, 0, 0⟩) (readC (Evs.S a) ⟨4, 0, 0⟩) := by
    unfold readC
    rcases s2 with h | ⟨h, hq⟩
    · left; rw [count_bad h.ne]; exact h
    · rw [h]; exact count_sm (by rw [r2]) hq (by show (readC _ _).2.c = 0; rw [r3])
  have s4 : Sm a.length (readN (Evs.S (a ++ b)) ⟨4, 0, 0⟩) (readN (Evs.S a) ⟨4, 0, 0⟩) := by
    unfold readN
    rcases s3 with h | ⟨h, hq⟩
    · left; rw [nodesN_bad h.ne]; exact h
    · rw [h]; exact nodesN_sm _ _ _ (by rw [r3]) hq (by show (readN _ _).2.c = 0; rw [r4])
  have s5 : Sm a.length (readM (Evs.S (a ++ b)) ⟨4, 0, 0⟩) (readM (Evs.S a) ⟨4, 0, 0⟩) := by
    unfold readM
    rcases s4 with h | ⟨h, hq⟩
    · left; rw [list_bad h.ne]; exact h
    · rw [h]; exact list_sm (by rw [r4]) hq (by show (readM _ _).2.c = 0; rw [r5])
  rcases s5 with h | ⟨h, hq⟩
  · exact h
  · have := hq.2
    rw [r5] at this
    exfalso
    have e : (((a ++ b).length : Nat) : Int) ≤ a.length := this
    rw [List.length_append] at e
    omega
theorem cut_plan (rs : List (List Int)) (h : ∀ r ∈ rs, RowP r) (hl : rs.length < 9223372036854775808) (a b : List UInt8) (hab : a ++ b = Pp.plan rs) (ha : 4 ≤ a.length) (hb : b ≠ []) : Bad a.length (planR (Evs.S a) ⟨4, 0, 0⟩).2 := by
  obtain ⟨r1, r2⟩ := read_plan rs h hl []
  rw [List.append_nil, ← hab] at r1 r2
  have hlen : (Pp.plan rs).length = a.length + b.length := by rw [← hab, List.length_append]
  have hbl : 0 < b.length := List.length_pos_iff.2 hb
  have s1 : Sm a.length (count (Evs.S (a ++ b)) ⟨4, 0, 0⟩) (count (Evs.S a) ⟨4, 0, 0⟩) := count_sm rfl ⟨by decide, by show (4 : Int) ≤ _; omega⟩ (by rw [r1])
  have s2 : Sm a.length (planR (Evs.S (a ++ b)) ⟨4, 0, 0⟩) (planR (Evs.S a) ⟨4, 0, 0⟩) := by
    unfold planR
    rcases s1 with h | ⟨h, hq⟩
    · left; rw [routesN_bad h.ne]; exact h
    · rw [h]; exact routesN_sm _ _ _ (by rw [r1]) hq (by show (planR _ _).2.c = 0; rw [r2])
  rcases s2 with h | ⟨h, hq⟩
  · exact h
  · have := hq.2
    rw [r2] at this
    exfalso
    have e : (((a ++ b).length : Nat) : Int) ≤ a.length := this
    rw [List.length_append] at e
    omega
/-- Cut off anywhere, and sealed again: too short, at a place of it, or no packet. -/
theorem get_cut (x : Cn.In) (hx : InstP x) (k : Nat) (hk : k < (Pp.inst x).length) : ∃ p c : Int, get (Evs.S (Pk.shut ((Pp.inst x).take k))) = (Cn.zero, [(p, c)]) ∧ 0 ≤ p ∧ p ≤ k ∧ (c = 211 ∨ (k < 4 ∧ c = 220)) := by
  by_cases h4 : 4 ≤ k
  · have h0 : opened (Evs.S (Pk.shut ((Pp.inst x).take k))) 1 = ⟨4, 0, 0⟩ := by
      rw [opened_of, if_pos]
      rw [List.take_take, Nat.min_eq_left h4]
      have := inst_take x []; rwa [List.append_nil] at this
    have hb := cut_inst x hx ((Pp.inst x).take k) ((Pp.inst x).drop k) (List.take_append_drop _ _) (by rw [List.length_take]; omega) (by intro e; have := congrArg List.length e; rw [List.length_drop] at this; simp at this; omega)
    have hl : ((Pp.inst x).take k).length = k := by rw [List.length_take]; omega
    rw [hl] at hb
    refine ⟨_, _, ?_, hb.2.1, hb.2.2, .inl hb.1⟩
    unfold get
    rw [(opn_of _).1, h0]
    unfold readE
    rw [fin_bad hb.ne, if_neg hb.ne]
  · have h0 : opened (Evs.S (Pk.shut ((Pp.inst x).take k))) 1 = ⟨4, 0, 220⟩ := by
      rw [opened_of, if_neg]
      intro e
      have := congrArg List.length e
      simp only [List.length_take, List.length_cons, List.length_nil] at this
      omega
    refine ⟨0, 220, ?_, by omega, by omega, .inr ⟨by omega, rfl⟩⟩
    rw [get_bad (by rw [h0]; decide), h0]
theorem getPlan_cut (rs : List (List Int)) (h : ∀ r ∈ rs, RowP r) (hl : rs.length < 9223372036854775808) (k : Nat) (hk : k < (Pp.plan rs).length) : ∃ p c : Int, getPlan (Evs.S (Pk.shut ((Pp.plan rs).take k))) = ([], (p, c)) ∧ 0 ≤ p ∧ p ≤ k ∧ (c = 211 ∨ (k < 4 ∧ c = 220)) := by
  by_cases h4 : 4 ≤ k
  · have h0 : opened (Evs.S (Pk.shut ((Pp.plan rs).take k))) 2 = ⟨4, 0, 0⟩ := by
      rw [opened_of, if_pos]
      rw [List.take_take, Nat.min_eq_left h4]
      have := plan_take rs []; rwa [List.append_nil] at this
    have hb := cut_plan rs h hl ((Pp.plan rs).take k) ((Pp.plan rs).drop k) (List.take_append_drop _ _) (by rw [List.length_take]; omega) (by intro e; have := congrArg List.length e; rw [List.length_drop] at this; simp at this; omega)
    have hl : ((Pp.plan rs).take k).length = k := by rw [List.length_take]; omega
    rw [hl] at hb
    refine ⟨_, _, ?_, hb.2.1, hb.2.2, .inl hb.1⟩
    unfold getPlan
    rw [(opn_of _).1, h0]
    unfold planE
    rw [fin_bad hb.ne, if_neg hb.ne]
  · have h0 : opened (Evs.S (Pk.shut ((Pp.plan rs).take k))) 2 = ⟨4, 0, 220⟩ := by
      rw [opened_of, if_neg]
      intro e
      have := congrArg List.length e
      simp only [List.length_take, List.length_cons, List.length_nil] at this
      omega
    refine ⟨0, 220, ?_, by omega, by omega, .inr ⟨by omega, rfl⟩⟩
    rw [getPlan_bad (by rw [h0]; decide), h0]
end Rr
end Go.Proofs.YtofklpphalalhaaGreatDoor
end
