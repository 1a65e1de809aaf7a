/- Texts of this claim, joined: PlO, PlA, PlB, Sm22. Each as it was, cut to what the claim uses. Conditions: each theorem's own. -/
import Derived.Test.YtofklpphalalhaaGreatDoorUpGivenX
import Derived.Test.YtofklpphalalhaaGreatDoorUpGivenR
import Derived.Test.YtofklpphalalhaaGreatDoorUpPAllx8
import Derived.Test.YtofklpphalalhaaGreatDoorUpEvs
section
namespace Go.Proofs.YtofklpphalalhaaGreatDoor
set_option linter.unusedVariables false
set_option linter.unusedSimpArgs false
namespace Rr
/-- Lists of numbers, up to the first wrong one. -/
def routesN (s : ByteArray) : Nat → List (List Int) → St → List (List Int) × St
  | 0, l, st => (l, st)
  | n + 1, l, st => if (list s st).2.c = 0 then routesN s n (l ++ [(list s st).1]) (list s st).2 else (l, (list s st).2)
def planR (s : ByteArray) (st : St) := routesN s (count s st).1.toNat [] (count s st).2
def planE (s : ByteArray) (st : St) := fin s (planR s st).2
def getPlan (s : ByteArray) : List (List Int) × Dg.D :=
  (if (planE (opT s) (opened s 2)).c = 0 then (planR (opT s) (opened s 2)).1 else [], ((planE (opT s) (opened s 2)).a, (planE (opT s) (opened s 2)).c))
theorem ok_routesN {s : ByteArray} : ∀ (n : Nat) (l : List (List Int)) (st : St), Ok s st → Ok s (routesN s n l st).2
  | 0, _, _, h => h
  | n + 1, l, st, h => by
    unfold routesN
    split
    · exact ok_routesN n _ _ (ok_list h)
    · exact ok_list h
end Rr
end Go.Proofs.YtofklpphalalhaaGreatDoor
end
section
namespace Go.Proofs.YtofklpphalalhaaGreatDoor
set_option linter.unusedVariables false
set_option linter.unusedSimpArgs false
open Go.RowKit Go.Proofs.YtofklpphalalhaaGreatDoor.PAll
namespace Pk2
end Pk2
namespace Rr
theorem n4 : ¬ ((4 : Int) = 0) := by decide
/-! What has failed stays so. -/
theorem number_bad {take : Int → Int × Int × Int} {st : St} (h : st.c ≠ 0) : number take st = (0, st) := by
  unfold number; rw [if_neg h]
theorem num_bad {s : ByteArray} {st : St} (h : st.c ≠ 0) : num s st = (0, st) := number_bad h
theorem nums_bad {s : ByteArray} {st : St} (h : st.c ≠ 0) : ∀ m, (nums s m st).2 = st
  | 0 => rfl
  | m + 1 => by
    have e := nums_bad h m (s := s)
    unfold nums
    rw [e, num_bad h]
theorem count_bad {s : ByteArray} {st : St} (h : st.c ≠ 0) : count s st = (0, st) := by
  unfold count; rw [number_bad h, if_neg (fun h' => h h'.1)]
theorem listN_bad {s : ByteArray} {st : St} (h : st.c ≠ 0) (n : Nat) (l : List Int) : (listN s n l st).2 = st := by
  cases n with
  | zero => rfl
  | succ n => unfold listN; rw [num_bad h, if_neg h]
theorem list_bad {s : ByteArray} {st : St} (h : st.c ≠ 0) : (list s st).2 = st := by
  unfold list; rw [count_bad h]; exact listN_bad h _ _
theorem text_bad {s : ByteArray} {st : St} (h : st.c ≠ 0) : (text s st).2 = st := by
  unfold text; rw [if_neg h]
theorem nodesN_bad {s : ByteArray} {st : St} (h : st.c ≠ 0) (n : Nat) (l : List S71) : (nodesN s n l st).2 = st := by
  cases n with
  | zero => rfl
  | succ n => unfold nodesN; rw [nums_bad h, if_neg h]
theorem fin_bad {s : ByteArray} {st : St} (h : st.c ≠ 0) : fin s st = st := by
  unfold fin; rw [if_neg (fun h' => h h'.1)]
theorem readE_bad {s : ByteArray} {st : St} (h : st.c ≠ 0) : readE s st = st := by
  have h1 : (readT s st).2 = st := text_bad h
  have h2 : (readH s st).2 = st := by unfold readH; rw [h1]; exact nums_bad h 5
  have h3 : (readC s st).2 = st := by unfold readC; rw [h2, count_bad h]
  have h4 : (readN s st).2 = st := by unfold readN; rw [h3]; exact nodesN_bad h _ _
  have h5 : (readM s st).2 = st := by unfold readM; rw [h4]; exact list_bad h
  unfold readE; rw [h5]; exact fin_bad h
theorem get_bad {s : ByteArray} (h : (opened s 1).c ≠ 0) : get s = (Cn.zero, [((opened s 1).a, (opened s 1).c)]) := by
  unfold get; rw [readE_bad h, if_neg h]
/-! What is put is got back. -/
theorem S_dl (l : List UInt8) : (Evs.S l).data.toList = l := Evs.S_data l
def InP (n : Int) : Prop := -2305843009213693952 ≤ n ∧ n ≤ 2305843009213693951
theorem putI_in {n : Int} (h : InP n) : Pk.putI n = Pk.putU (Pk.zig n) := by
  unfold Pk.putI InP at *; rw [if_neg (by omega)]
theorem putI_pos {n : Int} (h : InP n) : 1 ≤ (Pk.putI n).length := by rw [putI_in h]; exact Pk.putU_len_pos _
theorem getI_put (n : Int) (h : InP n) (a b : List UInt8) : Pk.getI (a ++ Pk.putI n ++ b) (a.length : Int) = (n, a.length + (Pk.putI n).length, 0) := by
  unfold Pk.getI
  rw [putI_in h, Pk.getU_put _ _ _ (Nat.lt_of_lt_of_le (Evs.zig_lt n h.1 h.2) (by decide))]
  rw [Pk.zag_zig]
theorem num_at (n : Int) (h : InP n) (a b : List UInt8) (q : Int) : num (Evs.S (a ++ Pk.putI n ++ b)) ⟨a.length, q, 0⟩ = (n, ⟨((a ++ Pk.putI n).length : Nat), q, 0⟩) := by
  unfold num number gi
  rw [S_dl, getI_put n h a b, if_pos rfl, List.length_append]
  exact if_pos rfl
theorem ints_cons (x : Int) (l : List Int) : Pp.ints (x :: l) = Pk.putI x ++ Pp.ints l := by unfold Pp.ints; rw [List.flatMap_cons]
theorem ints_nil : Pp.ints [] = [] := rfl
theorem ints_append (l m : List Int) : Pp.ints (l ++ m) = Pp.ints l ++ Pp.ints m := by unfold Pp.ints; rw [List.flatMap_append]
theorem ints_low (l : List Int) (h : ∀ x ∈ l, InP x) : l.length ≤ (Pp.ints l).length := by
  induction l with
  | nil => simp
  | cons x l ih =>
    rw [ints_cons, List.length_append, List.length_cons]
    have := putI_pos (h x (by simp))
    have := ih (fun y hy => h y (by simp [hy]))
    omega
theorem nums_at (l : List Int) (h : ∀ x ∈ l, InP x) (a b : List UInt8) (q : Int) : ∀ k, k ≤ l.length → nums (Evs.S (a ++ Pp.ints l ++ b)) k ⟨a.length, q, 0⟩ = (l.take k, ⟨((a ++ Pp.ints (l.take k)).length : Nat), q, 0⟩) := by
  intro k
  induction k with
  | zero => intro _; simp [nums, ints_nil]
  | succ k ih =>
    intro hk
    have e := ih (by omega)
    unfold nums
    rw [e]
    have hx : l.getD k 0 ∈ l := by
      rw [List.getD_eq_getElem?_getD, List.getElem?_eq_getElem (by omega)]; exact List.getElem_mem _
    have hsp : a ++ Pp.ints l ++ b = (a ++ Pp.ints (l.take k)) ++ Pk.putI (l.getD k 0) ++ (Pp.ints (l.drop (k + 1)) ++ b) := by
      have h1 : Pp.ints l = Pp.ints (l.take (k + 1)) ++ Pp.ints (l.drop (k + 1)) := by rw [← ints_append, List.take_append_drop]
      rw [h1, Pp.ints_take l k (by omega)]
      simp
    rw [hsp, num_at _ (h _ hx)]
    refine Prod.ext ?_ ?_
    · show l.take k ++ [l.getD k 0] = l.take (k + 1)
      rw [List.take_succ_eq_append_getElem (show k < l.length by omega), List.getD_eq_getElem?_getD, List.getElem?_eq_getElem (by omega)]; rfl
    · show (⟨((a ++ Pp.ints (l.take k) ++ Pk.putI (l.getD k 0)).length : Nat), q, 0⟩ : St) = ⟨((a ++ Pp.ints (l.take (k + 1))).length : Nat), q, 0⟩
      rw [Pp.ints_take l k (by omega), List.append_assoc]
theorem nums_all (l : List Int) (h : ∀ x ∈ l, InP x) (a b : List UInt8) (q : Int) {m : Nat} (hm : m = l.length) : nums (Evs.S (a ++ Pp.ints l ++ b)) m ⟨a.length, q, 0⟩ = (l, ⟨((a ++ Pp.ints l).length : Nat), q, 0⟩) := by
  subst hm
  have := nums_at l h a b q l.length (Nat.le_refl _)
  rw [List.take_length] at this
  exact this
theorem listN_at (l : List Int) (h : ∀ x ∈ l, InP x) : ∀ (d : List Int) (a b : List UInt8) (q : Int), listN (Evs.S (a ++ Pp.ints l ++ b)) l.length d ⟨a.length, q, 0⟩ = (d ++ l, ⟨((a ++ Pp.ints l).length : Nat), q, 0⟩) := by
  induction l with
  | nil => intro d a b q; simp [listN, ints_nil]
  | cons x l ih =>
    intro d a b q
    have e : a ++ Pp.ints (x :: l) ++ b = a ++ Pk.putI x ++ (Pp.ints l ++ b) := by rw [ints_cons]; simp
    rw [List.length_cons, e]
    unfold listN
    rw [num_at x (h x (by simp)), if_pos rfl]
    have := ih (fun y hy => h y (by simp [hy])) (d ++ [x]) (a ++ Pk.putI x) b q
    rw [show a ++ Pk.putI x ++ (Pp.ints l ++ b) = a ++ Pk.putI x ++ Pp.ints l ++ b by simp]
    refine this.trans ?_
    rw [ints_cons]
    simp
theorem count_at (m : Nat) (hm : m < 9223372036854775808) (a b : List UInt8) (hb : m ≤ b.length) (q : Int) : count (Evs.S (a ++ Pk.putUI m ++ b)) ⟨a.length, q, 0⟩ = ((m : Int), ⟨((a ++ Pk.putUI m).length : Nat), q, 0⟩) := by
  have e : number (gu (Evs.S (a ++ Pk.putUI m ++ b))) ⟨a.length, q, 0⟩ = ((m : Int), ⟨((a ++ Pk.putUI m).length : Nat), q, 0⟩) := by
    unfold number gu
    rw [S_dl, Evs.putUI_of, Pk.getU_put m a b hm, if_pos rfl, List.length_append]
    exact if_pos rfl
  unfold count
  rw [e, if_neg]
  intro h
  have := h.2
  rw [Evs.S_size] at this
  simp only [List.length_append] at this
  omega
theorem list_at (l : List Int) (h : ∀ x ∈ l, InP x) (hl : l.length < 9223372036854775808) (a b : List UInt8) (q : Int) : list (Evs.S (a ++ Pp.list l ++ b)) ⟨a.length, q, 0⟩ = (l, ⟨((a ++ Pp.list l).length : Nat), q, 0⟩) := by
  unfold list
  have e : a ++ Pp.list l ++ b = a ++ Pk.putUI l.length ++ (Pp.ints l ++ b) := by unfold Pp.list; simp
  rw [e, count_at l.length hl _ _ (by rw [List.length_append]; have := ints_low l h; omega), Int.toNat_natCast]
  have e2 : a ++ Pk.putUI l.length ++ (Pp.ints l ++ b) = a ++ Pk.putUI l.length ++ Pp.ints l ++ b := by simp
  rw [e2, listN_at l h]
  unfold Pp.list
  simp
theorem getT_put (t a b : List UInt8) (ht : t.length < 9223372036854775808) : Pk.getT (a ++ Pk.putT t ++ b) (a.length : Int) = (t, (a ++ Pk.putT t).length, 0) := by
  have e : a ++ Pk.putT t ++ b = a ++ Pk.putU t.length ++ (t ++ b) := by unfold Pk.putT; simp
  unfold Pk.getT
  rw [e, Pk.getU_put _ _ _ ht]
  simp only [ne_eq, not_true_eq_false, if_false]
  rw [if_neg (by simp; omega)]
  refine Prod.ext ?_ (Prod.ext ?_ rfl)
  · show ((a ++ Pk.putU t.length ++ (t ++ b)).drop (a.length + (Pk.putU t.length).length)).take t.length = t
    rw [← List.length_append, List.drop_left, List.take_left]
  · show a.length + (Pk.putU t.length).length + t.length = _
    unfold Pk.putT; simp; omega
theorem text_at (t : ByteArray) (ht : t.size < 9223372036854775808) (a b : List UInt8) (q : Int) : text (Evs.S (a ++ Pk.putT t.data.toList ++ b)) ⟨a.length, q, 0⟩ = (t, ⟨((a ++ Pk.putT t.data.toList).length : Nat), q, 0⟩) := by
  unfold text gt
  rw [S_dl, getT_put t.data.toList a b ht, if_pos rfl]
  refine (if_pos rfl).trans ?_
  show (Evs.S t.data.toList, _) = _
  rw [Evs.S_of]
  rfl
theorem nodes_cons (x : S71) (l : List S71) : Pp.nodes (x :: l) = Pp.ints (Pp.nums x) ++ Pp.nodes l := by unfold Pp.nodes; rw [List.flatMap_cons]
theorem nodeOf_nums (d : S71) : nodeOf (Pp.nums d) = d := rfl
def NodeP (d : S71) : Prop := ∀ x ∈ Pp.nums d, InP x
theorem nodes_low (l : List S71) (h : ∀ d ∈ l, NodeP d) : l.length ≤ (Pp.nodes l).length := by
  induction l with
  | nil => simp
  | cons x l ih =>
    rw [nodes_cons, List.length_append, List.length_cons]
    have h1 := ints_low (Pp.nums x) (h x (by simp))
    have h2 : (Pp.nums x).length = 7 := rfl
    have := ih (fun y hy => h y (by simp [hy]))
    omega
theorem nodesN_at (l : List S71) (h : ∀ d ∈ l, NodeP d) : ∀ (e : List S71) (a b : List UInt8) (q : Int), nodesN (Evs.S (a ++ Pp.nodes l ++ b)) l.length e ⟨a.length, q, 0⟩ = (e ++ l, ⟨((a ++ Pp.nodes l).length : Nat), q, 0⟩) := by
  induction l with
  | nil => intro d a b q; simp [nodesN, Pp.nodes]
  | cons x l ih =>
    intro d a b q
    have e : a ++ Pp.nodes (x :: l) ++ b = a ++ Pp.ints (Pp.nums x) ++ (Pp.nodes l ++ b) := by rw [nodes_cons]; simp
    rw [List.length_cons, e]
    unfold nodesN
    rw [nums_all (Pp.nums x) (h x (by simp)) a (Pp.nodes l ++ b) q (m := 7) rfl, if_pos rfl, nodeOf_nums]
    have := ih (fun y hy => h y (by simp [hy])) (d ++ [x]) (a ++ Pp.ints (Pp.nums x)) b q
    rw [show a ++ Pp.ints (Pp.nums x) ++ (Pp.nodes l ++ b) = a ++ Pp.ints (Pp.nums x) ++ Pp.nodes l ++ b by simp]
    refine this.trans ?_
    rw [nodes_cons]
    simp
theorem lists_cons (x : List Int) (l : List (List Int)) : (x :: l).flatMap Pp.list = Pp.list x ++ l.flatMap Pp.list := List.flatMap_cons
def RowP (r : List Int) : Prop := (∀ x ∈ r, InP x) ∧ r.length < 9223372036854775808
theorem list_low (r : List Int) : 1 ≤ (Pp.list r).length := by
  unfold Pp.list
  rw [Evs.putUI_of, List.length_append]
  have := Pk.putU_len_pos r.length
  omega
theorem lists_low (l : List (List Int)) : l.length ≤ (l.flatMap Pp.list).length := by
  induction l with
  | nil => simp
  | cons x l ih =>
    rw [lists_cons, List.length_append, List.length_cons]
    have := list_low x
    omega
theorem routesN_at (l : List (List Int)) (h : ∀ r ∈ l, RowP r) : ∀ (e : List (List Int)) (a b : List UInt8) (q : Int), routesN (Evs.S (a ++ l.flatMap Pp.list ++ b)) l.length e ⟨a.length, q, 0⟩ = (e ++ l, ⟨((a ++ l.flatMap Pp.list).length : Nat), q, 0⟩) := by
  induction l with
  | nil => intro d a b q; simp [routesN]
  | cons x l ih =>
    intro d a b q
    have e : a ++ (x :: l).flatMap Pp.list ++ b = a ++ Pp.list x ++ (l.flatMap Pp.list ++ b) := by rw [lists_cons]; simp
    rw [List.length_cons, e]
    unfold routesN
    rw [list_at x (h x (by simp)).1 (h x (by simp)).2 a _ q, if_pos rfl]
    have := ih (fun y hy => h y (by simp [hy])) (d ++ [x]) (a ++ Pp.list x) b q
    rw [show a ++ Pp.list x ++ (l.flatMap Pp.list ++ b) = a ++ Pp.list x ++ l.flatMap Pp.list ++ b by simp]
    refine this.trans ?_
    rw [lists_cons]
    simp
end Rr
end Go.Proofs.YtofklpphalalhaaGreatDoor
end
section
namespace Go.Proofs.YtofklpphalalhaaGreatDoor
set_option linter.unusedVariables false
set_option linter.unusedSimpArgs false
open Go.RowKit Go.Proofs.YtofklpphalalhaaGreatDoor.PAll
namespace Rr
/-- An instance whose numbers can be put. -/
structure InstP (x : Cn.In) : Prop where
  nm : x.nm.size < 9223372036854775808
  fs : ∀ n ∈ [x.kind, x.metric, x.scale, x.cap, x.fleet], InP n
  nodes : ∀ d ∈ x.nodes, NodeP d
  nlen : x.nodes.length < 9223372036854775808
  mx : ∀ n ∈ x.mx, InP n
  mlen : x.mx.length < 9223372036854775808
def A1 (x : Cn.In) : List UInt8 := [69, 80, 84, 1] ++ Pk.putT x.nm.data.toList
def A2 (x : Cn.In) : List UInt8 := A1 x ++ Pp.ints [x.kind, x.metric, x.scale, x.cap, x.fleet]
def A3 (x : Cn.In) : List UInt8 := A2 x ++ Pk.putUI x.nodes.length
def A4 (x : Cn.In) : List UInt8 := A3 x ++ Pp.nodes x.nodes
theorem inst_eq (x : Cn.In) : Pp.inst x = A4 x ++ Pp.list x.mx := by unfold Pp.inst A4 A3 A2 A1; simp
theorem read_inst (x : Cn.In) (hx : InstP x) (e : List UInt8) : readT (Evs.S (Pp.inst x ++ e)) ⟨4, 0, 0⟩ = (x.nm, ⟨((A1 x).length : Nat), 0, 0⟩) ∧ readH (Evs.S (Pp.inst x ++ e)) ⟨4, 0, 0⟩ = ([x.kind, x.metric, x.scale, x.cap, x.fleet], ⟨((A2 x).length : Nat), 0, 0⟩) ∧
    readC (Evs.S (Pp.inst x ++ e)) ⟨4, 0, 0⟩ = ((x.nodes.length : Int), ⟨((A3 x).length : Nat), 0, 0⟩) ∧ readN (Evs.S (Pp.inst x ++ e)) ⟨4, 0, 0⟩ = (x.nodes, ⟨((A4 x).length : Nat), 0, 0⟩) ∧ readM (Evs.S (Pp.inst x ++ e)) ⟨4, 0, 0⟩ = (x.mx, ⟨((Pp.inst x).length : Nat), 0, 0⟩) := by
  obtain ⟨T, hT⟩ : ∃ T, Pp.inst x ++ e = T := ⟨_, rfl⟩
  rw [hT]
  have t1 : T = [69, 80, 84, 1] ++ Pk.putT x.nm.data.toList ++ (Pp.ints [x.kind, x.metric, x.scale, x.cap, x.fleet] ++ (Pk.putUI x.nodes.length ++ (Pp.nodes x.nodes ++ (Pp.list x.mx ++ e)))) := by rw [← hT, inst_eq]; unfold A4 A3 A2 A1; simp
  have t2 : T = A1 x ++ Pp.ints [x.kind, x.metric, x.scale, x.cap, x.fleet] ++ (Pk.putUI x.nodes.length ++ (Pp.nodes x.nodes ++ (Pp.list x.mx ++ e))) := by rw [← hT, inst_eq]; unfold A4 A3 A2 A1; simp
  have t3 : T = A2 x ++ Pk.putUI x.nodes.length ++ (Pp.nodes x.nodes ++ (Pp.list x.mx ++ e)) := by rw [← hT, inst_eq]; unfold A4 A3 A2 A1; simp
  have t4 : T = A3 x ++ Pp.nodes x.nodes ++ (Pp.list x.mx ++ e) := by rw [← hT, inst_eq]; unfold A4 A3 A2 A1; simp
  have t5 : T = A4 x ++ Pp.list x.mx ++ e := by rw [← hT, inst_eq]
  have r1 : readT (Evs.S T) ⟨4, 0, 0⟩ = (x.nm, ⟨((A1 x).length : Nat), 0, 0⟩) := by
    unfold readT
    rw [t1]
    exact text_at x.nm hx.nm [69, 80, 84, 1] _ 0
  have r2 : readH (Evs.S T) ⟨4, 0, 0⟩ = ([x.kind, x.metric, x.scale, x.cap, x.fleet], ⟨((A2 x).length : Nat), 0, 0⟩) := by
    unfold readH
    rw [r1]
    rw [t2]
    exact nums_all [x.kind, x.metric, x.scale, x.cap, x.fleet] hx.fs (A1 x) _ 0 rfl
  have r3 : readC (Evs.S T) ⟨4, 0, 0⟩ = ((x.nodes.length : Int), ⟨((A3 x).length : Nat), 0, 0⟩) := by
    unfold readC
    rw [r2]
    rw [t3]
    exact count_at x.nodes.length hx.nlen (A2 x) _ (by rw [List.length_append]; have := nodes_low x.nodes hx.nodes; omega) 0
  have r4 : readN (Evs.S T) ⟨4, 0, 0⟩ = (x.nodes, ⟨((A4 x).length : Nat), 0, 0⟩) := by
    unfold readN
    rw [r3]
    rw [t4]
    exact nodesN_at x.nodes hx.nodes [] (A3 x) _ 0
  refine ⟨r1, r2, r3, r4, ?_⟩
  unfold readM
  rw [r4, inst_eq]
  rw [t5]
  exact list_at x.mx hx.mx hx.mlen (A4 x) e 0
theorem readX_inst (x : Cn.In) (hx : InstP x) (e : List UInt8) : readX (Evs.S (Pp.inst x ++ e)) ⟨4, 0, 0⟩ = x := by
  obtain ⟨r1, r2, r3, r4, r5⟩ := read_inst x hx e
  unfold readX
  rw [r1, r2, r4, r5]
  rfl
theorem opn_of (l : List UInt8) : opT (Evs.S (Pk.shut l)) = Evs.S l ∧ opE (Evs.S (Pk.shut l)) = 0 := by
  unfold opT opE
  rw [Evs.S_data, Pk.opn_shut]
  exact ⟨rfl, rfl⟩
theorem opened_of (l : List UInt8) (k : UInt8) : opened (Evs.S (Pk.shut l)) k = if l.take 4 = [69, 80, 84, k] then ⟨4, 0, 0⟩ else ⟨4, 0, 220⟩ := by
  unfold opened
  rw [(opn_of l).1, (opn_of l).2, Evs.S_data, if_neg (by decide), if_neg (by simp)]
theorem inst_take (x : Cn.In) (e : List UInt8) : (Pp.inst x ++ e).take 4 = [69, 80, 84, 1] := by unfold Pp.inst; simp
theorem plan_take (rs : List (List Int)) (e : List UInt8) : (Pp.plan rs ++ e).take 4 = [69, 80, 84, 2] := by unfold Pp.plan; simp
theorem fin_done (t : List UInt8) : fin (Evs.S t) ⟨(t.length : Nat), 0, 0⟩ = ⟨(t.length : Nat), 0, 0⟩ := by
  unfold fin
  rw [if_neg]
  intro h
  have h2 : 0 < ((Evs.S t).size : Int) - (t.length : Int) := h.2
  rw [Evs.S_size] at h2
  omega
/-- What is put is got back. -/
theorem get_back (x : Cn.In) (hx : InstP x) : get (Evs.S (Pk.shut (Pp.inst x))) = Cn.told x := by
  have h0 : opened (Evs.S (Pk.shut (Pp.inst x))) 1 = ⟨4, 0, 0⟩ := by rw [opened_of, if_pos (by have := inst_take x []; simpa using this)]
  have r := (read_inst x hx []).2.2.2.2
  have rx := readX_inst x hx []
  rw [List.append_nil] at r rx
  have e : readE (Evs.S (Pp.inst x)) ⟨4, 0, 0⟩ = ⟨((Pp.inst x).length : Nat), 0, 0⟩ := by
    unfold readE; rw [r]; exact fin_done _
  unfold get
  rw [(opn_of _).1, h0, rx, e, if_pos rfl]
theorem read_plan (rs : List (List Int)) (h : ∀ r ∈ rs, RowP r) (hl : rs.length < 9223372036854775808) (e : List UInt8) : count (Evs.S (Pp.plan rs ++ e)) ⟨4, 0, 0⟩ = ((rs.length : Int), ⟨(([69, 80, 84, 2] ++ Pk.putUI rs.length).length : Nat), 0, 0⟩) ∧ planR (Evs.S (Pp.plan rs ++ e)) ⟨4, 0, 0⟩ = (rs, ⟨((Pp.plan rs).length : Nat), 0, 0⟩) := by
  have t1 : Pp.plan rs ++ e = [69, 80, 84, 2] ++ Pk.putUI rs.length ++ (rs.flatMap Pp.list ++ e) := by unfold Pp.plan; simp
  have t2 : Pp.plan rs ++ e = [69, 80, 84, 2] ++ Pk.putUI rs.length ++ rs.flatMap Pp.list ++ e := by unfold Pp.plan; simp
  have r1 : count (Evs.S (Pp.plan rs ++ e)) ⟨4, 0, 0⟩ = ((rs.length : Int), ⟨(([69, 80, 84, 2] ++ Pk.putUI rs.length).length : Nat), 0, 0⟩) := by
    rw [t1]
    exact count_at rs.length hl [69, 80, 84, 2] _ (by rw [List.length_append]; have := lists_low rs; omega) 0
  refine ⟨r1, ?_⟩
  unfold planR
  rw [r1, t2]
  exact routesN_at rs h [] ([69, 80, 84, 2] ++ Pk.putUI rs.length) e 0
theorem getPlan_back (rs : List (List Int)) (h : ∀ r ∈ rs, RowP r) (hl : rs.length < 9223372036854775808) : getPlan (Evs.S (Pk.shut (Pp.plan rs))) = (rs, (0, 0)) := by
  have h0 : opened (Evs.S (Pk.shut (Pp.plan rs))) 2 = ⟨4, 0, 0⟩ := by rw [opened_of, if_pos (by have := plan_take rs []; simpa using this)]
  have r := (read_plan rs h hl []).2
  rw [List.append_nil] at r
  have e : planE (Evs.S (Pp.plan rs)) ⟨4, 0, 0⟩ = ⟨((Pp.plan rs).length : Nat), 0, 0⟩ := by
    unfold planE; rw [r]; exact fin_done _
  unfold getPlan
  rw [(opn_of _).1, h0, e, if_pos rfl, r]
/-- Neither is taken for the other one. -/
theorem get_plan (rs : List (List Int)) : get (Evs.S (Pk.shut (Pp.plan rs))) = (Cn.zero, [(0, 220)]) := by
  have h0 : opened (Evs.S (Pk.shut (Pp.plan rs))) 1 = ⟨4, 0, 220⟩ := by rw [opened_of, if_neg (by have := plan_take rs []; rw [List.append_nil] at this; rw [this]; decide)]
  rw [get_bad (by rw [h0]; decide), h0]
/-! Cut off. -/
def Bad (i : Nat) (st : St) : Prop := st.c = 211 ∧ 0 ≤ st.a ∧ st.a ≤ i
theorem Bad.ne {i : Nat} {st : St} (h : Bad i st) : st.c ≠ 0 := by rw [h.1]; decide
variable {a b : List UInt8} {st : St}
end Rr
end Go.Proofs.YtofklpphalalhaaGreatDoor
end
section
namespace Go.Proofs.YtofklpphalalhaaGreatDoor.Sm22
set_option linter.unusedVariables false
set_option linter.unusedSimpArgs false
open Go.RowKit Go.Proofs.YtofklpphalalhaaGreatDoor.PAll Go.Proofs.YtofklpphalalhaaGreatDoorW.PrintWords Go.Proofs.YtofklpphalalhaaGreatDoorW.PrintLast
def In1 (r : List Int) : Prop := r.length ≤ 300 ∧ ∀ x ∈ r, -2305843009213693952 ≤ x ∧ x ≤ 2305843009213693951
def Ok (rs : List (List Int)) : Prop := rs.length ≤ 60 ∧ (rs.map List.length).sum ≤ 300 ∧ ∀ r ∈ rs, In1 r
theorem rd_get (rs : List (List Int)) (i : Nat) (h : i < rs.length) : rd_L4 rs (i : Int) = rs[i] := by
  unfold rd_L4
  rw [Int.toNat_natCast, List.getD_eq_getElem?_getD, List.getElem?_eq_getElem h]; rfl
theorem j1_false (rs : List (List Int)) (i n : Nat) (hi : rs.length ≤ i ∨ 70 ≤ i) (hil : i ≤ rs.length) (hn : n = ((rs.take i).map List.length).sum) (hr : ∀ r ∈ rs.take i, In1 r) :
    ∃ b, Ev (fun k => entrepotlaw22_small.j1 k (n : Int) (i : Int) false rs) b ∧ (b = true → Ok rs) := by
  by_cases h : rs.length ≤ 60
  · refine ⟨decide ((n : Int) ≤ 300), ⟨1, fun k hk => ?_⟩, fun hb => ?_⟩
    · obtain ⟨m, rfl⟩ : ∃ m, k = m + 1 := ⟨k - 1, by omega⟩
      simp only [entrepotlaw22_small.j1]
      rw [if_neg (by simp), if_pos (by omega)]
    · have hb := of_decide_eq_true hb
      have e : rs.take i = rs := List.take_of_length_le (by omega)
      rw [e] at hn hr
      exact ⟨h, by omega, hr⟩
  · refine ⟨false, ⟨1, fun k hk => ?_⟩, fun hb => by cases hb⟩
    obtain ⟨m, rfl⟩ : ∃ m, k = m + 1 := ⟨k - 1, by omega⟩
    simp only [entrepotlaw22_small.j1]
    rw [if_neg (by simp), if_neg (by omega)]
theorem l1_ev' (rs : List (List Int)) (i n : Nat) (hi : i < rs.length) (h70 : i < 70) (H : (∀ x ∈ rs[i], -2305843009213693952 ≤ x ∧ x ≤ 2305843009213693951) → ∃ b, Ev (fun k => entrepotlaw22_small.l0 k (n : Int) ((i + 1 : Nat) : Int) rs) b ∧ (b = true → Ok rs)) (hlen : rs[i].length ≤ 300) (d : Nat) :
    ∀ j : Nat, j + d = rs[i].length → (∀ x ∈ rs[i].take j, -2305843009213693952 ≤ x ∧ x ≤ 2305843009213693951) → ∃ b, Ev (fun k => entrepotlaw22_small.l1 k (n : Int) (i : Int) (j : Int) rs) b ∧ (b = true → Ok rs) := by
  induction d with
  | zero =>
    intro j hj hx
    rw [List.take_of_length_le (by omega)] at hx
    obtain ⟨b, hb, hP⟩ := H hx
    refine ⟨b, ?_, hP⟩
    refine Ev.step (fun k => ?_) hb
    show entrepotlaw22_small.l1 (k + 1) (n : Int) (i : Int) (j : Int) rs = _
    simp only [entrepotlaw22_small.l1]
    rw [rd_get rs i hi, if_pos (by omega), if_pos (by omega), if_neg (by omega), Evs.w64 _ (by omega) (by omega)]
    rfl
  | succ d ih =>
    intro j hj hx
    have hjl : j < rs[i].length := by omega
    have hrd : rd rs[i] (j : Int) = rs[i][j] := by
      unfold rd
      rw [Int.toNat_natCast, List.getD_eq_getElem?_getD, List.getElem?_eq_getElem hjl]; rfl
    by_cases h1 : rs[i][j] < -2305843009213693952
    · refine ⟨false, ⟨1, fun k hk => ?_⟩, fun hb => by cases hb⟩
      obtain ⟨m, rfl⟩ : ∃ m, k = m + 1 := ⟨k - 1, by omega⟩
      simp only [entrepotlaw22_small.l1]
      rw [rd_get rs i hi, if_pos (by omega), if_pos (by omega), if_pos (by omega), if_pos (by omega), hrd, if_pos h1]
    · by_cases h2 : rs[i][j] > 2305843009213693951
      · refine ⟨false, ⟨1, fun k hk => ?_⟩, fun hb => by cases hb⟩
        obtain ⟨m, rfl⟩ : ∃ m, k = m + 1 := ⟨k - 1, by omega⟩
        simp only [entrepotlaw22_small.l1]
        rw [rd_get rs i hi, if_pos (by omega), if_pos (by omega), if_pos (by omega), if_pos (by omega), hrd, if_neg h1, if_pos h2]
      · obtain ⟨b, hb, hP⟩ := ih (j + 1) (by omega) (fun x hm => by
          rw [List.take_succ_eq_append_getElem hjl, List.mem_append, List.mem_singleton] at hm
          rcases hm with hm | rfl
          · exact hx x hm
          · exact ⟨by omega, by omega⟩)
        refine ⟨b, ?_, hP⟩
        refine Ev.step (fun k => ?_) hb
        show entrepotlaw22_small.l1 (k + 1) (n : Int) (i : Int) (j : Int) rs = _
        simp only [entrepotlaw22_small.l1]
        rw [rd_get rs i hi, if_pos (by omega), if_pos (by omega), if_pos (by omega), if_pos (by omega), hrd, if_neg h1, if_neg h2, Evs.w64 _ (by omega) (by omega)]
        rfl
theorem l0_ev (rs : List (List Int)) (d : Nat) : ∀ i n : Nat, i + d = 71 → i ≤ rs.length → n = ((rs.take i).map List.length).sum → n ≤ 300 * i → (∀ r ∈ rs.take i, In1 r) → ∃ b, Ev (fun k => entrepotlaw22_small.l0 k (n : Int) (i : Int) rs) b ∧ (b = true → Ok rs) := by
  induction d with
  | zero =>
    intro i n hi hil hn hnb hr
    by_cases hlt : i < rs.length
    · obtain ⟨b, hb, hP⟩ := j1_false rs i n (.inr (by omega)) hil hn hr
      refine ⟨b, ?_, hP⟩
      refine Ev.step (fun k => ?_) hb
      show entrepotlaw22_small.l0 (k + 1) (n : Int) (i : Int) rs = _
      simp only [entrepotlaw22_small.l0]
      rw [if_pos (by omega), decide_eq_false (by omega)]
    · obtain ⟨b, hb, hP⟩ := j1_false rs i n (.inl (by omega)) hil hn hr
      refine ⟨b, ?_, hP⟩
      refine Ev.step (fun k => ?_) hb
      show entrepotlaw22_small.l0 (k + 1) (n : Int) (i : Int) rs = _
      simp only [entrepotlaw22_small.l0]
      rw [if_neg (by omega)]
  | succ d ih =>
    intro i n hi hil hn hnb hr
    by_cases hlt : i < rs.length
    · by_cases h70 : i < 70
      · have key : ∃ b, Ev (fun k => entrepotlaw22_small.j1 k (n : Int) (i : Int) true rs) b ∧ (b = true → Ok rs) := by
          by_cases hl : rs[i].length > 300
          · refine ⟨false, ⟨1, fun k hk => ?_⟩, fun hb => by cases hb⟩
            obtain ⟨m, rfl⟩ : ∃ m, k = m + 1 := ⟨k - 1, by omega⟩
            simp only [entrepotlaw22_small.j1]
            rw [if_pos trivial, if_pos (by omega), if_pos (by omega), rd_get rs i hlt, if_pos (by omega)]
          · have H : (∀ x ∈ rs[i], -2305843009213693952 ≤ x ∧ x ≤ 2305843009213693951) → ∃ b, Ev (fun k => entrepotlaw22_small.l0 k ((n + rs[i].length : Nat) : Int) ((i + 1 : Nat) : Int) rs) b ∧ (b = true → Ok rs) := fun hx => by
              refine ih (i + 1) (n + rs[i].length) (by omega) (by omega) ?_ (by omega) (fun r hm => ?_)
              · rw [List.take_succ_eq_append_getElem hlt, List.map_append, List.sum_append, hn]; simp
              · rw [List.take_succ_eq_append_getElem hlt, List.mem_append, List.mem_singleton] at hm
                rcases hm with hm | rfl
                · exact hr r hm
                · exact ⟨by omega, hx⟩
            obtain ⟨b, hb, hP⟩ := l1_ev' rs i (n + rs[i].length) hlt h70 H (by omega) rs[i].length 0 (by omega) (fun x hm => by simp at hm)
            refine ⟨b, ?_, hP⟩
            refine Ev.step (fun k => ?_) hb
            show entrepotlaw22_small.j1 (k + 1) (n : Int) (i : Int) true rs = _
            simp only [entrepotlaw22_small.j1]
            rw [if_pos trivial, if_pos (by omega), if_pos (by omega), rd_get rs i hlt, if_neg (by omega), Evs.w64 _ (by omega) (by omega)]
            rfl
        obtain ⟨b, hb, hP⟩ := key
        refine ⟨b, ?_, hP⟩
        refine Ev.step (fun k => ?_) hb
        show entrepotlaw22_small.l0 (k + 1) (n : Int) (i : Int) rs = _
        simp only [entrepotlaw22_small.l0]
        rw [if_pos (by omega), decide_eq_true (by omega)]
      · obtain ⟨b, hb, hP⟩ := j1_false rs i n (.inr (by omega)) hil hn hr
        refine ⟨b, ?_, hP⟩
        refine Ev.step (fun k => ?_) hb
        show entrepotlaw22_small.l0 (k + 1) (n : Int) (i : Int) rs = _
        simp only [entrepotlaw22_small.l0]
        rw [if_pos (by omega), decide_eq_false (by omega)]
    · obtain ⟨b, hb, hP⟩ := j1_false rs i n (.inl (by omega)) hil hn hr
      refine ⟨b, ?_, hP⟩
      refine Ev.step (fun k => ?_) hb
      show entrepotlaw22_small.l0 (k + 1) (n : Int) (i : Int) rs = _
      simp only [entrepotlaw22_small.l0]
      rw [if_neg (by omega)]
/-- It always answers. -/
theorem small (rs : List (List Int)) : ∃ b, (∃ k, entrepotlaw22_small.f k rs = some b) ∧ (b = true → Ok rs) := by
  obtain ⟨b, hb, hP⟩ := l0_ev rs 71 0 0 (by omega) (by omega) rfl (by omega) (fun r hm => by simp at hm)
  exact ⟨b, hb.rounds, hP⟩
end Go.Proofs.YtofklpphalalhaaGreatDoor.Sm22
end
