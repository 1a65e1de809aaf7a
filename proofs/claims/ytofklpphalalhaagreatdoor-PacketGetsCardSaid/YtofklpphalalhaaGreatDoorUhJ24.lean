/- Texts of this claim, joined: PlA, PlB, LwA. Each as it was, cut to what the claim uses. Conditions: each theorem's own. -/
import Derived.Test.YtofklpphalalhaaGreatDoorUhJ21
import Derived.Test.YtofklpphalalhaaGreatDoorUhJ19
import Derived.Test.YtofklpphalalhaaGreatDoorUhGivenN
section
namespace Go.Proofs.YtofklpphalalhaaGreatDoor
set_option linter.unusedVariables false
set_option linter.unusedSimpArgs false
open Go.RowKit Go.Proofs.YtofklpphalalhaaGreatDoor.PAll
namespace Pk2
end Pk2
namespace Rr
theorem n4 : ¬ ((4 : Int) = 0) := by decide
theorem n211 : ¬ ((211 : Int) = 0) := by decide
/-! What has failed stays so. -/
theorem number_bad {take : Int → Int × Int × Int} {st : St} (h : st.c ≠ 0) : number take st = (0, st) := by
 unfold number; rw [if_neg h]
theorem num_bad {s : ByteArray} {st : St} (h : st.c ≠ 0) : num s st = (0, st) := number_bad h
theorem nums_bad {s : ByteArray} {st : St} (h : st.c ≠ 0) : ∀ m, (nums s m st).2 = st
  | 0 => rfl
  | m + 1 => by
    have e := nums_bad h m (s := s)
    unfold nums
    rw [e, num_bad h]
theorem count_bad {s : ByteArray} {st : St} (h : st.c ≠ 0) : count s st = (0, st) := by
 unfold count; rw [number_bad h, if_neg (fun h' => h h'.1)]
theorem listN_bad {s : ByteArray} {st : St} (h : st.c ≠ 0) (n : Nat) (l : List Int) : (listN s n l st).2 = st := by
 cases n with
 | zero => rfl
 | succ n => unfold listN; rw [num_bad h, if_neg h]
theorem list_bad {s : ByteArray} {st : St} (h : st.c ≠ 0) : (list s st).2 = st := by
 unfold list; rw [count_bad h]; exact listN_bad h _ _
theorem text_bad {s : ByteArray} {st : St} (h : st.c ≠ 0) : (text s st).2 = st := by
 unfold text; rw [if_neg h]
theorem nodesN_bad {s : ByteArray} {st : St} (h : st.c ≠ 0) (n : Nat) (l : List S71) : (nodesN s n l st).2 = st := by
 cases n with
 | zero => rfl
 | succ n => unfold nodesN; rw [nums_bad h, if_neg h]
theorem routesN_bad {s : ByteArray} {st : St} (h : st.c ≠ 0) (n : Nat) (l : List (List Int)) : (routesN s n l st).2 = st := by
 cases n with
 | zero => rfl
 | succ n => unfold routesN; rw [list_bad h, if_neg h]
theorem fin_bad {s : ByteArray} {st : St} (h : st.c ≠ 0) : fin s st = st := by
 unfold fin; rw [if_neg (fun h' => h h'.1)]
theorem readE_bad {s : ByteArray} {st : St} (h : st.c ≠ 0) : readE s st = st := by
 have h1 : (readT s st).2 = st := text_bad h
 have h2 : (readH s st).2 = st := by unfold readH; rw [h1]; exact nums_bad h 5
 have h3 : (readC s st).2 = st := by unfold readC; rw [h2, count_bad h]
 have h4 : (readN s st).2 = st := by unfold readN; rw [h3]; exact nodesN_bad h _ _
 have h5 : (readM s st).2 = st := by unfold readM; rw [h4]; exact list_bad h
 unfold readE; rw [h5]; exact fin_bad h
theorem get_bad {s : ByteArray} (h : (opened s 1).c ≠ 0) : get s = (Cn.zero, [((opened s 1).a, (opened s 1).c)]) := by
 unfold get; rw [readE_bad h, if_neg h]
/-! What is put is got back. -/
theorem S_dl (l : List UInt8) : (Evs.S l).data.toList = l := Evs.S_data l
def InP (n : Int) : Prop := -2305843009213693952 ≤ n ∧ n ≤ 2305843009213693951
theorem putI_in {n : Int} (h : InP n) : Pk.putI n = Pk.putU (Pk.zig n) := by
 unfold Pk.putI InP at *; rw [if_neg (by omega)]
theorem putI_pos {n : Int} (h : InP n) : 1 ≤ (Pk.putI n).length := by rw [putI_in h]; exact Pk.putU_len_pos _
theorem getI_put (n : Int) (h : InP n) (a b : List UInt8) : Pk.getI (a ++ Pk.putI n ++ b) (a.length : Int) = (n, a.length + (Pk.putI n).length, 0) := by
 unfold Pk.getI
 rw [putI_in h, Pk.getU_put _ _ _ (Nat.lt_of_lt_of_le (Evs.zig_lt n h.1 h.2) (by decide))]
 rw [Pk.zag_zig]
theorem num_at (n : Int) (h : InP n) (a b : List UInt8) (q : Int) : num (Evs.S (a ++ Pk.putI n ++ b)) ⟨a.length, q, 0⟩ = (n, ⟨((a ++ Pk.putI n).length : Nat), q, 0⟩) := by
 unfold num number gi
 rw [S_dl, getI_put n h a b, if_pos rfl, List.length_append]
 exact if_pos rfl
theorem ints_cons (x : Int) (l : List Int) : Pp.ints (x :: l) = Pk.putI x ++ Pp.ints l := by unfold Pp.ints; rw [List.flatMap_cons]
theorem ints_nil : Pp.ints [] = [] := rfl
theorem ints_append (l m : List Int) : Pp.ints (l ++ m) = Pp.ints l ++ Pp.ints m := by unfold Pp.ints; rw [List.flatMap_append]
theorem ints_low (l : List Int) (h : ∀ x ∈ l, InP x) : l.length ≤ (Pp.ints l).length := by
  induction l with
  | nil => simp
  | cons x l ih =>
    rw [ints_cons, List.length_append, List.length_cons]
    have := putI_pos (h x (by simp))
    have := ih (fun y hy => h y (by simp [hy]))
    omega
theorem nums_at (l : List Int) (h : ∀ x ∈ l, InP x) (a b : List UInt8) (q : Int) : ∀ k, k ≤ l.length → nums (Evs.S (a ++ Pp.ints l ++ b)) k ⟨a.length, q, 0⟩ = (l.take k, ⟨((a ++ Pp.ints (l.take k)).length : Nat), q, 0⟩) := by
  intro k
  induction k with
  | zero => intro _; simp [nums, ints_nil]
  | succ k ih =>
    intro hk
    have e := ih (by omega)
    unfold nums
    rw [e]
    have hx : l.getD k 0 ∈ l := by
      rw [List.getD_eq_getElem?_getD, List.getElem?_eq_getElem (by omega)]; exact List.getElem_mem _
    have hsp : a ++ Pp.ints l ++ b = (a ++ Pp.ints (l.take k)) ++ Pk.putI (l.getD k 0) ++ (Pp.ints (l.drop (k + 1)) ++ b) := by
      have h1 : Pp.ints l = Pp.ints (l.take (k + 1)) ++ Pp.ints (l.drop (k + 1)) := by rw [← ints_append, List.take_append_drop]
      rw [h1, Pp.ints_take l k (by omega)]
      simp
    rw [hsp, num_at _ (h _ hx)]
    refine Prod.ext ?_ ?_
    · show l.take k ++ [l.getD k 0] = l.take (k + 1)
      rw [List.take_succ_eq_append_getElem (show k < l.length by omega), List.getD_eq_getElem?_getD, List.getElem?_eq_getElem (by omega)]; rfl
    · show (⟨((a ++ Pp.ints (l.take k) ++ Pk.putI (l.getD k 0)).length : Nat), q, 0⟩ : St) = ⟨((a ++ Pp.ints (l.take (k + 1))).length : Nat), q, 0⟩
      rw [Pp.ints_take l k (by omega), List.append_assoc]
theorem nums_all (l : List Int) (h : ∀ x ∈ l, InP x) (a b : List UInt8) (q : Int) {m : Nat} (hm : m = l.length) : nums (Evs.S (a ++ Pp.ints l ++ b)) m ⟨a.length, q, 0⟩ = (l, ⟨((a ++ Pp.ints l).length : Nat), q, 0⟩) := by
 subst hm
 have := nums_at l h a b q l.length (Nat.le_refl _)
 rw [List.take_length] at this
 exact this
theorem listN_at (l : List Int) (h : ∀ x ∈ l, InP x) : ∀ (d : List Int) (a b : List UInt8) (q : Int), listN (Evs.S (a ++ Pp.ints l ++ b)) l.length d ⟨a.length, q, 0⟩ = (d ++ l, ⟨((a ++ Pp.ints l).length : Nat), q, 0⟩) := by
  induction l with
  | nil => intro d a b q; simp [listN, ints_nil]
  | cons x l ih =>
    intro d a b q
    have e : a ++ Pp.ints (x :: l) ++ b = a ++ Pk.putI x ++ (Pp.ints l ++ b) := by rw [ints_cons]; simp
    rw [List.length_cons, e]
    unfold listN
    rw [num_at x (h x (by simp)), if_pos rfl]
    have := ih (fun y hy => h y (by simp [hy])) (d ++ [x]) (a ++ Pk.putI x) b q
    rw [show a ++ Pk.putI x ++ (Pp.ints l ++ b) = a ++ Pk.putI x ++ Pp.ints l ++ b by simp]
    refine this.trans ?_
    rw [ints_cons]
    simp
theorem count_at (m : Nat) (hm : m < 9223372036854775808) (a b : List UInt8) (hb : m ≤ b.length) (q : Int) : count (Evs.S (a ++ Pk.putUI m ++ b)) ⟨a.length, q, 0⟩ = ((m : Int), ⟨((a ++ Pk.putUI m).length : Nat), q, 0⟩) := by
 have e : number (gu (Evs.S (a ++ Pk.putUI m ++ b))) ⟨a.length, q, 0⟩ = ((m : Int), ⟨((a ++ Pk.putUI m).length : Nat), q, 0⟩) := by
  unfold number gu
  rw [S_dl, Evs.putUI_of, Pk.getU_put m a b hm, if_pos rfl, List.length_append]
  exact if_pos rfl
 unfold count
 rw [e, if_neg]
 intro h
 have := h.2
 rw [Evs.S_size] at this
 simp only [List.length_append] at this
 omega
theorem list_at (l : List Int) (h : ∀ x ∈ l, InP x) (hl : l.length < 9223372036854775808) (a b : List UInt8) (q : Int) : list (Evs.S (a ++ Pp.list l ++ b)) ⟨a.length, q, 0⟩ = (l, ⟨((a ++ Pp.list l).length : Nat), q, 0⟩) := by
 unfold list
 have e : a ++ Pp.list l ++ b = a ++ Pk.putUI l.length ++ (Pp.ints l ++ b) := by unfold Pp.list; simp
 rw [e, count_at l.length hl _ _ (by rw [List.length_append]; have := ints_low l h; omega), Int.toNat_natCast]
 have e2 : a ++ Pk.putUI l.length ++ (Pp.ints l ++ b) = a ++ Pk.putUI l.length ++ Pp.ints l ++ b := by simp
 rw [e2, listN_at l h]
 unfold Pp.list
 simp
theorem getT_put (t a b : List UInt8) (ht : t.length < 9223372036854775808) : Pk.getT (a ++ Pk.putT t ++ b) (a.length : Int) = (t, (a ++ Pk.putT t).length, 0) := by
 have e : a ++ Pk.putT t ++ b = a ++ Pk.putU t.length ++ (t ++ b) := by unfold Pk.putT; simp
 unfold Pk.getT
 rw [e, Pk.getU_put _ _ _ ht]
 simp only [ne_eq, not_true_eq_false, if_false]
 rw [if_neg (by simp; omega)]
 refine Prod.ext ?_ (Prod.ext ?_ rfl)
 ·show ((a ++ Pk.putU t.length ++ (t ++ b)).drop (a.length + (Pk.putU t.length).length)).take t.length = t
  rw [← List.length_append, List.drop_left, List.take_left]
 ·show a.length + (Pk.putU t.length).length + t.length = _
  unfold Pk.putT; simp; omega
theorem text_at (t : ByteArray) (ht : t.size < 9223372036854775808) (a b : List UInt8) (q : Int) : text (Evs.S (a ++ Pk.putT t.data.toList ++ b)) ⟨a.length, q, 0⟩ = (t, ⟨((a ++ Pk.putT t.data.toList).length : Nat), q, 0⟩) := by
 unfold text gt
 rw [S_dl, getT_put t.data.toList a b ht, if_pos rfl]
 refine (if_pos rfl).trans ?_
 show (Evs.S t.data.toList, _) = _
 rw [Evs.S_of]
 rfl
theorem nodes_cons (x : S71) (l : List S71) : Pp.nodes (x :: l) = Pp.ints (Pp.nums x) ++ Pp.nodes l := by unfold Pp.nodes; rw [List.flatMap_cons]
theorem nodeOf_nums (d : S71) : nodeOf (Pp.nums d) = d := rfl
def NodeP (d : S71) : Prop := ∀ x ∈ Pp.nums d, InP x
theorem nodes_low (l : List S71) (h : ∀ d ∈ l, NodeP d) : l.length ≤ (Pp.nodes l).length := by
  induction l with
  | nil => simp
  | cons x l ih =>
    rw [nodes_cons, List.length_append, List.length_cons]
    have h1 := ints_low (Pp.nums x) (h x (by simp))
    have h2 : (Pp.nums x).length = 7 := rfl
    have := ih (fun y hy => h y (by simp [hy]))
    omega
theorem nodesN_at (l : List S71) (h : ∀ d ∈ l, NodeP d) : ∀ (e : List S71) (a b : List UInt8) (q : Int), nodesN (Evs.S (a ++ Pp.nodes l ++ b)) l.length e ⟨a.length, q, 0⟩ = (e ++ l, ⟨((a ++ Pp.nodes l).length : Nat), q, 0⟩) := by
  induction l with
  | nil => intro d a b q; simp [nodesN, Pp.nodes]
  | cons x l ih =>
    intro d a b q
    have e : a ++ Pp.nodes (x :: l) ++ b = a ++ Pp.ints (Pp.nums x) ++ (Pp.nodes l ++ b) := by rw [nodes_cons]; simp
    rw [List.length_cons, e]
    unfold nodesN
    rw [nums_all (Pp.nums x) (h x (by simp)) a (Pp.nodes l ++ b) q (m := 7) rfl, if_pos rfl, nodeOf_nums]
    have := ih (fun y hy => h y (by simp [hy])) (d ++ [x]) (a ++ Pp.ints (Pp.nums x)) b q
    rw [show a ++ Pp.ints (Pp.nums x) ++ (Pp.nodes l ++ b) = a ++ Pp.ints (Pp.nums x) ++ Pp.nodes l ++ b by simp]
    refine this.trans ?_
    rw [nodes_cons]
    simp
theorem lists_cons (x : List Int) (l : List (List Int)) : (x :: l).flatMap Pp.list = Pp.list x ++ l.flatMap Pp.list := List.flatMap_cons
def RowP (r : List Int) : Prop := (∀ x ∈ r, InP x) ∧ r.length < 9223372036854775808
theorem list_low (r : List Int) : 1 ≤ (Pp.list r).length := by
 unfold Pp.list
 rw [Evs.putUI_of, List.length_append]
 have := Pk.putU_len_pos r.length
 omega
theorem lists_low (l : List (List Int)) : l.length ≤ (l.flatMap Pp.list).length := by
  induction l with
  | nil => simp
  | cons x l ih =>
    rw [lists_cons, List.length_append, List.length_cons]
    have := list_low x
    omega
theorem routesN_at (l : List (List Int)) (h : ∀ r ∈ l, RowP r) : ∀ (e : List (List Int)) (a b : List UInt8) (q : Int), routesN (Evs.S (a ++ l.flatMap Pp.list ++ b)) l.length e ⟨a.length, q, 0⟩ = (e ++ l, ⟨((a ++ l.flatMap Pp.list).length : Nat), q, 0⟩) := by
  induction l with
  | nil => intro d a b q; simp [routesN]
  | cons x l ih =>
    intro d a b q
    have e : a ++ (x :: l).flatMap Pp.list ++ b = a ++ Pp.list x ++ (l.flatMap Pp.list ++ b) := by rw [lists_cons]; simp
    rw [List.length_cons, e]
    unfold routesN
    rw [list_at x (h x (by simp)).1 (h x (by simp)).2 a _ q, if_pos rfl]
    have := ih (fun y hy => h y (by simp [hy])) (d ++ [x]) (a ++ Pp.list x) b q
    rw [show a ++ Pp.list x ++ (l.flatMap Pp.list ++ b) = a ++ Pp.list x ++ l.flatMap Pp.list ++ b by simp]
    refine this.trans ?_
    rw [lists_cons]
    simp
end Rr
end Go.Proofs.YtofklpphalalhaaGreatDoor
end
section
namespace Go.Proofs.YtofklpphalalhaaGreatDoor
set_option linter.unusedVariables false
set_option linter.unusedSimpArgs false
open Go.RowKit Go.Proofs.YtofklpphalalhaaGreatDoor.PAll
namespace Rr
/-- An instance whose numbers can be put. -/
structure InstP (x : Cn.In) : Prop where
 nm : x.nm.size < 9223372036854775808
 fs : ∀ n ∈ [x.kind, x.metric, x.scale, x.cap, x.fleet], InP n
 nodes : ∀ d ∈ x.nodes, NodeP d
 nlen : x.nodes.length < 9223372036854775808
 mx : ∀ n ∈ x.mx, InP n
 mlen : x.mx.length < 9223372036854775808
def A1 (x : Cn.In) : List UInt8 := [69, 80, 84, 1] ++ Pk.putT x.nm.data.toList
def A2 (x : Cn.In) : List UInt8 := A1 x ++ Pp.ints [x.kind, x.metric, x.scale, x.cap, x.fleet]
def A3 (x : Cn.In) : List UInt8 := A2 x ++ Pk.putUI x.nodes.length
def A4 (x : Cn.In) : List UInt8 := A3 x ++ Pp.nodes x.nodes
theorem inst_eq (x : Cn.In) : Pp.inst x = A4 x ++ Pp.list x.mx := by unfold Pp.inst A4 A3 A2 A1; simp
theorem read_inst (x : Cn.In) (hx : InstP x) (e : List UInt8) : readT (Evs.S (Pp.inst x ++ e)) ⟨4, 0, 0⟩ = (x.nm, ⟨((A1 x).length : Nat), 0, 0⟩) ∧ readH (Evs.S (Pp.inst x ++ e)) ⟨4, 0, 0⟩ = ([x.kind, x.metric, x.scale, x.cap, x.fleet], ⟨((A2 x).length : Nat), 0, 0⟩) ∧
  readC (Evs.S (Pp.inst x ++ e)) ⟨4, 0, 0⟩ = ((x.nodes.length : Int), ⟨((A3 x).length : Nat), 0, 0⟩) ∧ readN (Evs.S (Pp.inst x ++ e)) ⟨4, 0, 0⟩ = (x.nodes, ⟨((A4 x).length : Nat), 0, 0⟩) ∧ readM (Evs.S (Pp.inst x ++ e)) ⟨4, 0, 0⟩ = (x.mx, ⟨((Pp.inst x).length : Nat), 0, 0⟩) := by
 obtain ⟨T, hT⟩ : ∃ T, Pp.inst x ++ e = T := ⟨_, rfl⟩
 rw [hT]
 have t1 : T = [69, 80, 84, 1] ++ Pk.putT x.nm.data.toList ++ (Pp.ints [x.kind, x.metric, x.scale, x.cap, x.fleet] ++ (Pk.putUI x.nodes.length ++ (Pp.nodes x.nodes ++ (Pp.list x.mx ++ e)))) := by rw [← hT, inst_eq]; unfold A4 A3 A2 A1; simp
 have t2 : T = A1 x ++ Pp.ints [x.kind, x.metric, x.scale, x.cap, x.fleet] ++ (Pk.putUI x.nodes.length ++ (Pp.nodes x.nodes ++ (Pp.list x.mx ++ e))) := by rw [← hT, inst_eq]; unfold A4 A3 A2 A1; simp
 have t3 : T = A2 x ++ Pk.putUI x.nodes.length ++ (Pp.nodes x.nodes ++ (Pp.list x.mx ++ e)) := by rw [← hT, inst_eq]; unfold A4 A3 A2 A1; simp
 have t4 : T = A3 x ++ Pp.nodes x.nodes ++ (Pp.list x.mx ++ e) := by rw [← hT, inst_eq]; unfold A4 A3 A2 A1; simp
 have t5 : T = A4 x ++ Pp.list x.mx ++ e := by rw [← hT, inst_eq]
 have r1 : readT (Evs.S T) ⟨4, 0, 0⟩ = (x.nm, ⟨((A1 x).length : Nat), 0, 0⟩) := by
  unfold readT
  rw [t1]
  exact text_at x.nm hx.nm [69, 80, 84, 1] _ 0
 have r2 : readH (Evs.S T) ⟨4, 0, 0⟩ = ([x.kind, x.metric, x.scale, x.cap, x.fleet], ⟨((A2 x).length : Nat), 0, 0⟩) := by
  unfold readH
  rw [r1]
  rw [t2]
  exact nums_all [x.kind, x.metric, x.scale, x.cap, x.fleet] hx.fs (A1 x) _ 0 rfl
 have r3 : readC (Evs.S T) ⟨4, 0, 0⟩ = ((x.nodes.length : Int), ⟨((A3 x).length : Nat), 0, 0⟩) := by
  unfold readC
  rw [r2]
  rw [t3]
  exact count_at x.nodes.length hx.nlen (A2 x) _ (by rw [List.length_append]; have := nodes_low x.nodes hx.nodes; omega) 0
 have r4 : readN (Evs.S T) ⟨4, 0, 0⟩ = (x.nodes, ⟨((A4 x).length : Nat), 0, 0⟩) := by
  unfold readN
  rw [r3]
  rw [t4]
  exact nodesN_at x.nodes hx.nodes [] (A3 x) _ 0
 refine ⟨r1, r2, r3, r4, ?_⟩
 unfold readM
 rw [r4, inst_eq]
 rw [t5]
 exact list_at x.mx hx.mx hx.mlen (A4 x) e 0
theorem readX_inst (x : Cn.In) (hx : InstP x) (e : List UInt8) : readX (Evs.S (Pp.inst x ++ e)) ⟨4, 0, 0⟩ = x := by
 obtain ⟨r1, r2, r3, r4, r5⟩ := read_inst x hx e
 unfold readX
 rw [r1, r2, r4, r5]
 rfl
theorem opn_of (l : List UInt8) : opT (Evs.S (Pk.shut l)) = Evs.S l ∧ opE (Evs.S (Pk.shut l)) = 0 := by
 unfold opT opE
 rw [Evs.S_data, Pk.opn_shut]
 exact ⟨rfl, rfl⟩
theorem opened_of (l : List UInt8) (k : UInt8) : opened (Evs.S (Pk.shut l)) k = if l.take 4 = [69, 80, 84, k] then ⟨4, 0, 0⟩ else ⟨4, 0, 220⟩ := by
 unfold opened
 rw [(opn_of l).1, (opn_of l).2, Evs.S_data, if_neg (by decide), if_neg (by simp)]
theorem inst_take (x : Cn.In) (e : List UInt8) : (Pp.inst x ++ e).take 4 = [69, 80, 84, 1] := by unfold Pp.inst; simp
theorem plan_take (rs : List (List Int)) (e : List UInt8) : (Pp.plan rs ++ e).take 4 = [69, 80, 84, 2] := by unfold Pp.plan; simp
theorem fin_done (t : List UInt8) : fin (Evs.S t) ⟨(t.length : Nat), 0, 0⟩ = ⟨(t.length : Nat), 0, 0⟩ := by
 unfold fin
 rw [if_neg]
 intro h
 have h2 : 0 < ((Evs.S t).size : Int) - (t.length : Int) := h.2
 rw [Evs.S_size] at h2
 omega
/-- What is put is got back. -/
theorem get_back (x : Cn.In) (hx : InstP x) : get (Evs.S (Pk.shut (Pp.inst x))) = Cn.told x := by
 have h0 : opened (Evs.S (Pk.shut (Pp.inst x))) 1 = ⟨4, 0, 0⟩ := by rw [opened_of, if_pos (by have := inst_take x []; simpa using this)]
 have r := (read_inst x hx []).2.2.2.2
 have rx := readX_inst x hx []
 rw [List.append_nil] at r rx
 have e : readE (Evs.S (Pp.inst x)) ⟨4, 0, 0⟩ = ⟨((Pp.inst x).length : Nat), 0, 0⟩ := by
  unfold readE; rw [r]; exact fin_done _
 unfold get
 rw [(opn_of _).1, h0, rx, e, if_pos rfl]
theorem read_plan (rs : List (List Int)) (h : ∀ r ∈ rs, RowP r) (hl : rs.length < 9223372036854775808) (e : List UInt8) : count (Evs.S (Pp.plan rs ++ e)) ⟨4, 0, 0⟩ = ((rs.length : Int), ⟨(([69, 80, 84, 2] ++ Pk.putUI rs.length).length : Nat), 0, 0⟩) ∧ planR (Evs.S (Pp.plan rs ++ e)) ⟨4, 0, 0⟩ = (rs, ⟨((Pp.plan rs).length : Nat), 0, 0⟩) := by
 have t1 : Pp.plan rs ++ e = [69, 80, 84, 2] ++ Pk.putUI rs.length ++ (rs.flatMap Pp.list ++ e) := by unfold Pp.plan; simp
 have t2 : Pp.plan rs ++ e = [69, 80, 84, 2] ++ Pk.putUI rs.length ++ rs.flatMap Pp.list ++ e := by unfold Pp.plan; simp
 have r1 : count (Evs.S (Pp.plan rs ++ e)) ⟨4, 0, 0⟩ = ((rs.length : Int), ⟨(([69, 80, 84, 2] ++ Pk.putUI rs.length).length : Nat), 0, 0⟩) := by
  rw [t1]
  exact count_at rs.length hl [69, 80, 84, 2] _ (by rw [List.length_append]; have := lists_low rs; omega) 0
 refine ⟨r1, ?_⟩
 unfold planR
 rw [r1, t2]
 exact routesN_at rs h [] ([69, 80, 84, 2] ++ Pk.putUI rs.length) e 0
theorem getPlan_back (rs : List (List Int)) (h : ∀ r ∈ rs, RowP r) (hl : rs.length < 9223372036854775808) : getPlan (Evs.S (Pk.shut (Pp.plan rs))) = (rs, (0, 0)) := by
 have h0 : opened (Evs.S (Pk.shut (Pp.plan rs))) 2 = ⟨4, 0, 0⟩ := by rw [opened_of, if_pos (by have := plan_take rs []; simpa using this)]
 have r := (read_plan rs h hl []).2
 rw [List.append_nil] at r
 have e : planE (Evs.S (Pp.plan rs)) ⟨4, 0, 0⟩ = ⟨((Pp.plan rs).length : Nat), 0, 0⟩ := by
  unfold planE; rw [r]; exact fin_done _
 unfold getPlan
 rw [(opn_of _).1, h0, e, if_pos rfl, r]
/-- Neither is taken for the other one. -/
theorem get_plan (rs : List (List Int)) : get (Evs.S (Pk.shut (Pp.plan rs))) = (Cn.zero, [(0, 220)]) := by
 have h0 : opened (Evs.S (Pk.shut (Pp.plan rs))) 1 = ⟨4, 0, 220⟩ := by rw [opened_of, if_neg (by have := plan_take rs []; rw [List.append_nil] at this; rw [this]; decide)]
 rw [get_bad (by rw [h0]; decide), h0]
/-! Cut off. -/
def Bad (i : Nat) (st : St) : Prop := st.c = 211 ∧ 0 ≤ st.a ∧ st.a ≤ i
theorem Bad.ne {i : Nat} {st : St} (h : Bad i st) : st.c ≠ 0 := by rw [h.1]; decide
variable {a b : List UInt8} {st : St}
end Rr
end Go.Proofs.YtofklpphalalhaaGreatDoor
end
section
namespace Go.Proofs.YtofklpphalalhaaGreatDoor
set_option linter.unusedVariables false
set_option linter.unusedSimpArgs false
open Go.RowKit Go.Proofs.YtofklpphalalhaaGreatDoor.PAll Go.Proofs.YtofklpphalalhaaGreatDoorW.PrintWords Go.Proofs.YtofklpphalalhaaGreatDoorW.PrintLast Go.Proofs.YtofklpphalalhaaGreatDoorW.PrintMore
namespace Rr
def x0 : Cn.In := ⟨⟨#[116]⟩, 1, 1, 0, 0, 0, [⟨-3, 0, 0, 0, 0, 0, 0⟩], []⟩
def r0 : List (List Int) := [[3], []]
theorem told0 : Cn.told x0 = (x0, []) := by
 have h : Cn.check x0 = [] := by kernel_rfl
 unfold Cn.told
 rw [if_pos h]
 have hn : Cn.norm x0 = x0 := by unfold Cn.norm; rw [Cn.normN_stop]; kernel_rfl
 rw [hn]
theorem inst0 : InstP x0 := by
 refine ⟨by decide, ?_, ?_, by decide, ?_, by decide⟩
 ·intro n hn; simp [x0] at hn; rcases hn with rfl | rfl <;> exact ⟨by decide, by decide⟩
 ·intro d hd; simp [x0] at hd; subst hd
  intro n hn; simp [Pp.nums] at hn; rcases hn with rfl | rfl <;> exact ⟨by decide, by decide⟩
 ·intro n hn; simp [x0] at hn
theorem get0 : get (Evs.S (Pk.shut (Pp.inst x0))) = (x0, []) := by rw [get_back x0 inst0, told0]
theorem rows0 : ∀ r ∈ r0, RowP r := by
 intro r hr
 simp [r0] at hr
 rcases hr with rfl | rfl
 ·exact ⟨fun x hx => by simp at hx; subst hx; exact ⟨by decide, by decide⟩, by decide⟩
 ·exact ⟨fun x hx => by simp at hx, by decide⟩
theorem plan0 : getPlan (Evs.S (Pk.shut (Pp.plan r0))) = (r0, (0, 0)) := getPlan_back r0 rows0 (by decide)
theorem bytes0 : Pp.plan r0 = [69, 80, 84, 2, 2, 1, 6, 0] := by
 unfold Pp.plan r0 Pp.list Pp.ints
 simp only [List.flatMap_cons, List.flatMap_nil, List.length_cons, List.length_nil]
 unfold Pk.putI Pk.putUI Pk.zig
 rw [if_neg (by decide), if_neg (by decide), if_neg (by decide), if_neg (by decide), if_neg (by decide)]
 rw [Pk.putU_lt (by decide), Pk.putU_lt (by decide), Pk.putU_lt (by decide), Pk.putU_lt (by decide)]
 rfl
end Rr
theorem addz (a : Addr) : a.add 0 = a := by cases a; simp [Addr.add]
theorem lit_C {w : World} {n t : Nat} {l : List Int} (h : w.heap[n]? = some (.cells (l.map (Value.int .i64)).toArray t (0, 0))) (hl : l.length ≤ 1000) {m : Nat} (hm : m = l.length) : Kd.C (Kd.int .i64) w (some ⟨n, 0, none⟩) m l := by
 subst hm; exact C_of_block h (by omega)
set_option maxRecDepth 100000 in
set_option maxHeartbeats 32000000 in
theorem shown22_walk (w : World) (HT : Tab w) : Calls Tryz.prog 26 #[] w fun e w' => e = .returned (.bool true) ∧ Below w.heap.size w w' := by
  obtain ⟨V0, hV0⟩ : ∃ V, V = ((w.alloc (.cells #[.int .i64 3] 3)).alloc (.cells #[] 3)).alloc (.cells #[.slice (some ⟨w.heap.size, 0, none⟩) 1 1, .slice (some ⟨w.heap.size + 1, 0, none⟩) 0 0] 23) := ⟨_, rfl⟩
  have hs2 : ((w.alloc (.cells #[.int .i64 3] 3)).alloc (.cells #[] 3)).heap.size = w.heap.size + 2 := by simp
  have hb0 : Below w.heap.size w V0 := by rw [hV0]; exact (below_two w _ _).alloc (by rw [hs2]; omega) _
  have htw := two_blocks w (.cells #[.int .i64 3] 3) (.cells #[] 3)
  have hkk := below_one ((w.alloc (.cells #[.int .i64 3] 3)).alloc (.cells #[] 3)) (.cells #[.slice (some ⟨w.heap.size, 0, none⟩) 1 1, .slice (some ⟨w.heap.size + 1, 0, none⟩) 0 0] 23)
  have q0 : V0.heap[w.heap.size]? = some (.cells #[.int .i64 3] 3) := by rw [hV0]; exact (hkk.block _ (by rw [hs2]; omega)).trans htw.1
  have q1 : V0.heap[w.heap.size + 1]? = some (.cells #[] 3) := by rw [hV0]; exact (hkk.block _ (by rw [hs2]; omega)).trans htw.2
  have q2 : V0.heap[w.heap.size + 2]? = some (.cells #[.slice (some ⟨w.heap.size, 0, none⟩) 1 1, .slice (some ⟨w.heap.size + 1, 0, none⟩) 0 0] 23) := by rw [hV0, ← hs2]; exact Array.getElem?_push_size
  have hC0 : Kd.C kRow V0 (some ⟨w.heap.size + 2, 0, none⟩) Rr.r0.length Rr.r0 := by
    refine ⟨rfl, by decide, fun _ => ⟨_, rfl, fun j p hp => ?_⟩⟩
    match j, hp with
    | 0, hp =>
      obtain rfl : [3] = p := by simpa [Rr.r0] using hp
      refine ⟨[.slice (some ⟨w.heap.size, 0, none⟩) 1 1], rfl, ⟨_, 1, rfl, Nat.le_refl _, lit_C (l := [3]) q0 (by decide) rfl⟩, fun i u hu => ?_⟩
      match i, hu with
      | 0, hu => simp at hu; subst hu; show V0.cell? ⟨w.heap.size + 2, _, none⟩ = _; rw [Lib.cell_of_heap q2]; rfl
    | 1, hp =>
      obtain rfl : [] = p := by simpa [Rr.r0] using hp
      refine ⟨[.slice (some ⟨w.heap.size + 1, 0, none⟩) 0 0], rfl, ⟨_, 0, rfl, Nat.le_refl _, lit_C (l := []) q1 (by decide) rfl⟩, fun i u hu => ?_⟩
      match i, hu with
      | 0, hu => simp at hu; subst hu; show V0.cell? ⟨w.heap.size + 2, _, none⟩ = _; rw [Lib.cell_of_heap q2]; rfl
    | j + 2, hp => simp [Rr.r0] at hp
  have hT0 := HT.below hb0
  have hpp := putPlan_walk Rr.r0 (some ⟨w.heap.size + 2, 0, none⟩) 2 V0 hT0 (by decide) (by decide) hC0
  obtain ⟨sP, hsP⟩ : ∃ s, Evs.S (Pk.shut (Pp.plan Rr.r0)) = s := ⟨_, rfl⟩
  have hsz : sP.size = 12 := by rw [← hsP, Evs.S_size, Pk.shut_len, Rr.bytes0]; rfl
  have hpl := Rr.plan0
  have hgi := Rr.get_plan Rr.r0
  rw [hsP] at hpp hpl hgi
  have hseal : ∀ w, Calls Tryz.prog 34 #[.string ⟨#[69, 80, 84, 2, 2, 1, 6, 0]⟩] w fun e w' => e = .returned (.string sP) ∧ Below w.heap.size w w' := fun w => by
    obtain ⟨k, hk⟩ := (Evs.refSealed ⟨#[69, 80, 84, 2, 2, 1, 6, 0]⟩ (by decide)).rounds
    rw [show (⟨#[69, 80, 84, 2, 2, 1, 6, 0]⟩ : ByteArray).data.toList = Pp.plan Rr.r0 by rw [Rr.bytes0], hsP] at hk
    exact entrepotref21_Seal.calls k _ _ w hk
  have HPP := Aside0.mk hpp
  have HPL := Aside0.mk hpl
  have HGI := Aside0.mk hgi
  have HSEAL := Aside0.mk hseal
  have HSZ := Aside0.mk hsz
  have HB0 := Aside0.mk hb0
  have HT0 := Aside0.mk hT0
  have hz2 : V0.heap.size = w.heap.size + 3 := by rw [hV0]; simp
  have HV0 := Aside0.mk hV0
  rw [hV0] at HPP
  clear hpp hpl hgi hseal hsz hb0 hT0 q0 q1 q2 hC0 htw hkk hs2 hsP
  have HZ2 := Aside0.mk hz2
  clear hz2 hV0
  go_enter Tryz.func26, Tryz.ntmps26
  go_wp2_with fail
  refine HPP.out.mono ?_
  rintro e W1 ⟨rfl, b1⟩
  rw [← HV0.out] at b1
  have HB1 := Aside0.mk (HB0.out.trans (b1.mono HB0.out.size))
  have HT1 := Aside0.mk (HT0.out.below b1)
  have hgp := getPlan_walk sP (by rw [HSZ.out]; decide) W1 HT1.out
  rw [HPL.out] at hgp
  have HGP := Aside0.mk hgp
  clear b1 hgp HPP HV0
  go_wp2_with fail
  refine HGP.out.mono ?_
  rintro e W2 ⟨v, rfl, hR, b2⟩
  obtain ⟨A, c, ev, hcc, hC⟩ := Kd.R_reads hR
  replace ev : v = .slice A 2 c := ev
  subst ev
  have HC := Aside0.mk hC
  have HB2 := Aside0.mk (HB1.out.trans (b2.mono HB1.out.size))
  have HT2 := Aside0.mk (HT1.out.below b2)
  clear hR hcc hC b2 HGP HT1 HB1
  obtain ⟨V3, hV3⟩ : ∃ V, V = ((W2.alloc (.cells #[.slice A 2 c] 28)).alloc (.cells #[.int .i64 0, .int .i64 0] 38)).alloc (.cells #[.int .i64 (-3), .int .i64 0, .int .i64 0, .int .i64 0, .int .i64 0, .int .i64 0, .int .i64 0] 71) := ⟨_, rfl⟩
  have hs2 : ((W2.alloc (.cells #[.slice A 2 c] 28)).alloc (.cells #[.int .i64 0, .int .i64 0] 38)).heap.size = W2.heap.size + 2 := by simp
  have hs3 : V3.heap.size = W2.heap.size + 3 := by rw [hV3]; simp
  have hb3 : Below W2.heap.size W2 V3 := by rw [hV3]; exact (below_two W2 _ _).alloc (by rw [hs2]; omega) _
  have htw := two_blocks W2 (.cells #[.slice A 2 c] 28) (.cells #[.int .i64 0, .int .i64 0] 38)
  have hkk := below_one ((W2.alloc (.cells #[.slice A 2 c] 28)).alloc (.cells #[.int .i64 0, .int .i64 0] 38)) (.cells #[.int .i64 (-3), .int .i64 0, .int .i64 0, .int .i64 0, .int .i64 0, .int .i64 0, .int .i64 0] 71)
  have q0 : V3.heap[W2.heap.size]? = some (.cells #[.slice A 2 c] 28) := by rw [hV3]; exact (hkk.block _ (by rw [hs2]; omega)).trans htw.1
  have q1 : V3.heap[W2.heap.size + 1]? = some (.cells #[.int .i64 0, .int .i64 0] 38) := by rw [hV3]; exact (hkk.block _ (by rw [hs2]; omega)).trans htw.2
  have q2 : V3.heap[W2.heap.size + 2]? = some (.cells #[.int .i64 (-3), .int .i64 0, .int .i64 0, .int .i64 0, .int .i64 0, .int .i64 0, .int .i64 0] 71) := by rw [hV3, ← hs2]; exact Array.getElem?_push_size
  have hC6 : Kd.C k71 V3 (some ⟨W2.heap.size + 2, 0, none⟩) Rr.x0.nodes.length Rr.x0.nodes := by
    refine ⟨rfl, by decide, fun _ => ⟨_, rfl, fun j p hp => ?_⟩⟩
    match j, hp with
    | 0, hp =>
      obtain rfl : (⟨-3, 0, 0, 0, 0, 0, 0⟩ : S71) = p := by simpa [Rr.x0] using hp
      refine ⟨_, rfl, k71_mk V3 ⟨-3, 0, 0, 0, 0, 0, 0⟩, fun i u hu => ?_⟩
      rw [Addr.add_lit, Lib.cell_of_heap q2, Nat.zero_mul, Nat.zero_add, Nat.zero_add, ← hu, ← List.getElem?_toArray]
    | j + 1, hp => simp [Rr.x0] at hp
  have hT3 := HT2.out.below hb3
  have hpx := put_walk Rr.x0 (some ⟨W2.heap.size + 2, 0, none⟩) none 1 0 V3 hT3 (by decide) (by decide) (by decide) hC6 (Kd.C_nil _ _)
  obtain ⟨sX, hsX⟩ : ∃ s, Evs.S (Pk.shut (Pp.inst Rr.x0)) = s := ⟨_, rfl⟩
  have hgx := Rr.get0
  have hxz : sX.size ≤ 1000000000 := by
    rw [← hsX, Evs.S_size, Pk.shut_len]
    have : (Pp.inst Rr.x0).length ≤ 1000 := by
      have h1 := Pp.ints_len [Rr.x0.kind, Rr.x0.metric, Rr.x0.scale, Rr.x0.cap, Rr.x0.fleet]
      have h2 := Pp.nodes_len Rr.x0.nodes
      have h3 := Pp.putUI_len Rr.x0.nodes.length (by decide)
      have h4 := Pp.putUI_len Rr.x0.mx.length (by decide)
      have h5 : (Pk.putT Rr.x0.nm.data.toList).length ≤ 10 := by
        unfold Pk.putT
        have := Evs.putU_len9 Rr.x0.nm.data.toList.length (by decide)
        rw [List.length_append]
        have : Rr.x0.nm.data.toList.length = 1 := rfl
        omega
      have h6 : [Rr.x0.kind, Rr.x0.metric, Rr.x0.scale, Rr.x0.cap, Rr.x0.fleet].length = 5 := rfl
      have h7 : Rr.x0.nodes.length = 1 := rfl
      have h8 : Pp.ints Rr.x0.mx = [] := rfl
      unfold Pp.inst Pp.list
      rw [h8]
      simp only [List.length_append, List.length_cons, List.length_nil] at *
      omega
    omega
  rw [hsX] at hpx hgx
  rw [hV3] at hpx
  have HPX := Aside0.mk hpx
  have HV3 := Aside0.mk hV3
  have HGX := Aside0.mk hgx
  have HXZ := Aside0.mk hxz
  have HQ := Aside0.mk (And.intro q0 (And.intro q1 hs3))
  have HT3 := Aside0.mk hT3
  have HB3 := Aside0.mk (HB2.out.trans (hb3.mono HB2.out.size))
  have HC3 := Aside0.mk (Kd.C_below HC.out hb3)
  clear hpx hgx hxz q0 q1 q2 hs3 hs2 hb3 htw hkk hC6 hT3 hV3 hsX HB2 HT2 HC
  go_wp2_with fail
  refine HPX.out.mono ?_
  rintro e W4 ⟨rfl, b4⟩
  rw [← HV3.out] at b4
  have HK4 := Aside0.mk b4
  have HT4 := Aside0.mk (HT3.out.below b4)
  have hgw := get_walk sX HXZ.out W4 HT4.out
  rw [HGX.out] at hgw
  have HGW := Aside0.mk hgw
  clear hgw b4 HPX HV3 HT3
  go_wp2_with fail
  refine HGW.out.mono ?_
  rintro e W5 ⟨v5, vl5, rfl, ⟨u6, u7, rfl, hR6, hR7⟩, hD5, b5⟩
  obtain ⟨Au, cu, e6, _, hCu⟩ := Kd.R_reads hR6
  obtain ⟨Bu, du, e7⟩ := Kd.R_slice hR7
  obtain ⟨Al, cl, el⟩ := Kd.R_slice (R_of_own hD5)
  replace e6 : u6 = .slice Au 1 cu := e6
  replace e7 : u7 = .slice Bu 0 du := e7
  replace el : vl5 = .slice Al 0 cl := el
  subst e6
  subst e7
  subst el
  have HK5 := Aside0.mk (HK4.out.trans (b5.mono HK4.out.size))
  have HT5 := Aside0.mk (HT4.out.below b5)
  have HCU := Aside0.mk hCu
  have hbx := below_one W5 (.cells #[.string ⟨#[116]⟩, .int .i64 1, .int .i64 1, .int .i64 0, .int .i64 0, .int .i64 0, .slice Au 1 cu, .slice Bu 0 du] 25)
  have hgm := get_walk sP (by rw [HSZ.out]; decide) _ (HT5.out.below hbx)
  rw [HGI.out] at hgm
  have HGM := Aside0.mk hgm
  have HBX := Aside0.mk hbx
  clear hR6 hR7 hD5 b5 hCu hgm HGW HK4 HT4 hbx
  go_wp2_with fail
  refine HGM.out.mono ?_
  rintro e W6 ⟨v6, vl6, rfl, ⟨z6, z7, rfl, hZ6, hZ7⟩, hD6, b6⟩
  obtain ⟨Az, cz, ez6⟩ := Kd.R_slice hZ6
  obtain ⟨Bz, dz, ez7⟩ := Kd.R_slice hZ7
  obtain ⟨Am, cm, em, _, hCm⟩ := Kd.R_reads (R_of_own hD6)
  replace ez6 : z6 = .slice Az 0 cz := ez6
  replace ez7 : z7 = .slice Bz 0 dz := ez7
  replace em : vl6 = .slice Am 1 cm := em
  subst ez6
  subst ez7
  subst em
  have HK6 := Aside0.mk (HBX.out.trans (b6.mono HBX.out.size))
  have hb5 : Below V3.heap.size V3 W6 := HK5.out.trans (HK6.out.mono HK5.out.size)
  have hx6 := (b6.block W5.heap.size (by simp)).trans (show (W5.alloc (.cells #[.string ⟨#[116]⟩, .int .i64 1, .int .i64 1, .int .i64 0, .int .i64 0, .int .i64 0, .slice Au 1 cu, .slice Bu 0 du] 25)).heap[W5.heap.size]? = _ from Array.getElem?_push_size)
  have hm6 := below_one W6 (.cells #[.string ⟨#[]⟩, .int .i64 0, .int .i64 0, .int .i64 0, .int .i64 0, .int .i64 0, .slice Az 0 cz, .slice Bz 0 dz] 25)
  have HX6 := Aside0.mk ((hm6.block W5.heap.size (Array.getElem?_eq_some_iff.1 hx6).1).trans hx6)
  have HM6 := Aside0.mk (hb5.trans (hm6.mono hb5.size))
  have HCM := Aside0.mk (Kd.C_below hCm hm6)
  have HCU6 := Aside0.mk (Kd.C_below HCU.out (HK6.out.trans (hm6.mono HK6.out.size)))
  have HS6 := Aside0.mk (HSEAL.out (W6.alloc (.cells #[.string ⟨#[]⟩, .int .i64 0, .int .i64 0, .int .i64 0, .int .i64 0, .int .i64 0, .slice Az 0 cz, .slice Bz 0 dz] 25)))
  have hV3s := HQ.out.2.2
  clear hZ6 hZ7 hD6 b6 hCm hb5 hx6 hm6 HGM HK5 HK6 HT5 HCU HBX HSEAL hV3s
  go_wp2_with fail
  refine HS6.out.mono ?_
  rintro e W7 ⟨rfl, b7⟩
  have hk7 := HM6.out.trans (b7.mono HM6.out.size)
  have hlt := HQ.out.2.2
  have g0 := (hk7.block _ (by rw [hlt]; omega)).trans HQ.out.1
  have g1 := (hk7.block _ (by rw [hlt]; omega)).trans HQ.out.2.1
  have gx := (b7.block _ (Array.getElem?_eq_some_iff.1 HX6.out).1).trans HX6.out
  have p0 : W7.cell? ⟨W2.heap.size, 0, none⟩ = some (.slice A 2 c) := by rw [Lib.cell_of_heap g0]; rfl
  have p1 : W7.cell? ⟨W2.heap.size + 1, 0, none⟩ = some (.int .i64 0) := by rw [Lib.cell_of_heap g1]; rfl
  have p2 : W7.cell? ⟨W2.heap.size + 1, 1, none⟩ = some (.int .i64 0) := by rw [Lib.cell_of_heap g1]; rfl
  have p6 : W7.cell? ⟨W5.heap.size, 6, none⟩ = some (.slice Au 1 cu) := by rw [Lib.cell_of_heap gx]; rfl
  obtain ⟨ad, A0, c0, eA, r0, _, hC0⟩ := at_L4 (Kd.C_below HC3.out hk7) 0 (by decide) (by decide)
  obtain ⟨a0, eA0, r1⟩ := int_cell hC0 0 (by decide)
  obtain ⟨au, eU, n0, hrest⟩ := at_T71 (Kd.C_below HCU6.out b7) 0 (by decide) (by decide)
  clear hrest
  obtain ⟨am, eM, m0, m1⟩ := at_T38 (Kd.C_below HCM.out b7) 0 (by decide) (by decide)
  replace r0 : W7.cell? (ad.add 0) = some (.slice A0 1 c0) := r0
  replace r1 : W7.cell? (a0.add 0) = some (.int .i64 3) := r1
  replace n0 : W7.cell? (au.add (0 * 7)) = some (.int .i64 (-3)) := n0
  replace m0 : W7.cell? (am.add (0 * 2)) = some (.int .i64 0) := m0
  replace m1 : W7.cell? ⟨(am.add (0 * 2)).block, (am.add (0 * 2)).off + 1, none⟩ = some (.int .i64 220) := m1
  subst eA
  subst eA0
  subst eU
  subst eM
  simp only [Nat.zero_mul, addz] at r0 r1 n0 m0 m1
  have he0 : ∀ w, Sem.run Tryz.prog (binOp .eql 38 (.agg #[.int .i64 0, .int .i64 0]) (.agg #[.int .i64 0, .int .i64 0])) w = .ok (.bool true) w := fun w => by have := eq38 (0, 0) (0, 0) w; simpa using this
  have he1 : ∀ w, Sem.run Tryz.prog (binOp .eql 38 (.agg #[.int .i64 0, .int .i64 220]) (.agg #[.int .i64 0, .int .i64 220])) w = .ok (.bool true) w := fun w => by have := eq38 (0, 220) (0, 220) w; simpa using this
  have HE : Aside0 (Below w.heap.size w W7) := ⟨HB3.out.trans (hk7.mono HB3.out.size)⟩
  clear b7 hk7 hlt g0 g1 gx hC0 HS6 HM6 HX6 HQ HC3 HCU6 HCM HB3
  go_wp2_with fail
  go_ret
  exact ⟨by first | rfl | simp, HE.out⟩
end Go.Proofs.YtofklpphalalhaaGreatDoor
end
