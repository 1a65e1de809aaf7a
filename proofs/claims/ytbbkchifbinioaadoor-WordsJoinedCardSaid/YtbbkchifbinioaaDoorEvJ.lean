/- The law WordsJoined, in plain Lean. Conditions: none (beyond the printed law's own). -/
import Derived.Test.YtbbkchifbinioaaDoorPAllx9
import Derived.Test.YtbbkchifbinioaaDoorEvG
namespace Go.Proofs.YtbbkchifbinioaaDoor.Evs
set_option linter.unusedVariables false
set_option linter.unusedSimpArgs false
open Go.RowKit Go.Proofs.YtbbkchifbinioaaDoor.PAll Go.Proofs.YtbbkchifbinioaaDoorW.PrintWords Go.Proofs.YtbbkchifbinioaaDoorW.PrintLast

theorem S_toList (l : List UInt8) : (S l).toList = l := by rw [ByteArray.toList_eq, S_data]
theorem S_append (a b : List UInt8) : S a ++ S b = S (a ++ b) := S_ext (by rw [S_data, ByteArray.data_append]; simp [S])
theorem wf_u8 {n : Int} (h : (Lit.int .u8 n).wf = true) : 0 ≤ n ∧ n ≤ 255 := by
  simpa [Lit.wf, IntKind.min, IntKind.max, IntKind.signed, IntKind.bits] using h

/-! Joined. -/
def odd (by_ : List Int) (i : Nat) : Prop := i < by_.length ∧ (rd by_ (i : Int)).tmod 2 = 1
instance (by_ : List Int) (i : Nat) : Decidable (odd by_ i) := by unfold odd; infer_instance
def ex (by_ : List Int) (i : Nat) : List UInt8 := if odd by_ i then [9, 32] else []
def chunks (l : List UInt8) (by_ : List Int) : Nat → List Wd.Wo → List (List UInt8 × List UInt8)
  | _, [] => []
  | i, w :: ws => (Wd.part l w.f w.t, ex by_ i) :: chunks l by_ (i + 1) ws
theorem chunks_fst (l : List UInt8) (by_ : List Int) (ws : List Wd.Wo) : ∀ i, (chunks l by_ i ws).map (·.1) = ws.map (fun w => Wd.part l w.f w.t) := by
  induction ws with
  | nil => intro i; rfl
  | cons w ws ih => intro i; simp only [chunks, List.map_cons]; rw [ih]
theorem ex_blank (by_ : List Int) (i : Nat) : ∀ x ∈ ex by_ i, Wd.isB x = true := by
  intro x hx
  unfold ex at hx
  split at hx
  · simp at hx; rcases hx with rfl | rfl <;> rfl
  · cases hx
theorem chunks_good (l : List UInt8) (by_ : List Int) (ws : List Wd.Wo) (h : ∀ w ∈ ws, w.f < w.t ∧ w.t ≤ l.length ∧ (∀ j, w.f ≤ j → j < w.t → Wd.isB (l.getD j 0) = false)) : ∀ i, ∀ c ∈ chunks l by_ i ws, c.1 ≠ [] ∧ (∀ x ∈ c.1, Wd.isB x = false) ∧ (∀ x ∈ c.2, Wd.isB x = true) := by
  induction ws with
  | nil => intro i c hc; cases hc
  | cons w ws ih =>
    intro i c hc
    simp only [chunks] at hc
    rcases List.mem_cons.1 hc with rfl | hc
    · obtain ⟨h1, h2, h3⟩ := h w (List.mem_cons_self)
      refine ⟨fun e => ?_, fun x hx => ?_, ex_blank by_ i⟩
      · have := Wd.part_len l w.f w.t h2
        replace e : Wd.part l w.f w.t = [] := e
        rw [e] at this; simp at this; omega
      · obtain ⟨j, a, b, e⟩ := Wd.part_mem _ _ _ _ hx
        rw [← e]; exact h3 j a b
    · exact ih (fun w hw => h w (List.mem_cons_of_mem _ hw)) (i + 1) c hc
theorem textW (s : ByteArray) (a b : Nat) (hab : a ≤ b) (hb : b ≤ s.size) : words_Text.f s (a : Int) (b : Int) = some (S (Wd.part s.data.toList a b)) := by
  rw [textF]; exact refTextF s a b hab hb
theorem joined_l1 (s T : ByteArray) (xs ms : List Wd.Wo) (hl : xs.length ≤ 1000000000) (hx : ∀ w ∈ xs, w.f < w.t ∧ w.t ≤ s.size) (hm : ∀ w ∈ ms, w.f ≤ w.t ∧ w.t ≤ T.size)
    (he : ms.map (fun w => Wd.part T.data.toList w.f w.t) = xs.map (fun w => Wd.part s.data.toList w.f w.t)) (d : Nat) : ∀ i : Nat, i + d = xs.length →
    Ev (fun k => entrepotlaw03_WordsJoined.l1 k s (xs.map toS) T (ms.map toS) (i : Int)) true := by
  have hml : ms.length = xs.length := by have := congrArg List.length he; simpa using this
  induction d with
  | zero =>
    intro i hi
    refine Ev.one fun k => ?_
    simp only [entrepotlaw03_WordsJoined.l1]
    rw [if_neg (by rw [List.length_map]; omega)]
  | succ d ih =>
    intro i hi
    have h1 := hx xs[i] (List.getElem_mem (by omega))
    have h2 := hm ms[i] (List.getElem_mem (by omega))
    have hp : Wd.part T.data.toList ms[i].f ms[i].t = Wd.part s.data.toList xs[i].f xs[i].t := by
      have := congrArg (fun l => l[i]?) he
      simp only [List.getElem?_map, List.getElem?_eq_getElem (show i < ms.length by omega), List.getElem?_eq_getElem (show i < xs.length by omega), Option.map_some, Option.some.injEq] at this
      exact this
    have hne : Wd.part s.data.toList xs[i].f xs[i].t ≠ [] := fun e => by
      have := Wd.part_len s.data.toList xs[i].f xs[i].t h1.2
      rw [e] at this; simp at this; omega
    have t1 := textW s xs[i].f xs[i].t (by omega) h1.2
    have t2 := textW T ms[i].f ms[i].t h2.1 h2.2
    rw [hp] at t2
    refine Ev.step (fun k => ?_) (ih (i + 1) (by omega))
    simp only [entrepotlaw03_WordsJoined.l1]
    rw [if_pos (by rw [List.length_map]; omega), if_pos (by omega), rd24 xs i (by omega), rd24 ms i (by omega)]
    have e0 : (toS xs[i]).f0 = (xs[i].f : Int) := rfl
    have e1 : (toS xs[i]).f1 = (xs[i].t : Int) := rfl
    have e2 : (toS ms[i]).f0 = (ms[i].f : Int) := rfl
    have e3 : (toS ms[i]).f1 = (ms[i].t : Int) := rfl
    rw [e0, e1, e2, e3, t1, t2, Option.bind_some, Option.bind_some, S_toList, if_neg hne, if_pos (by rw [List.length_map]; omega), if_pos rfl, next_ i (by omega)]
theorem joined_l0 (s : ByteArray) (hs : s.size ≤ 1000) (by_ : List Int) (xs : List Wd.Wo) (hl : xs.length ≤ 1001) (hx : ∀ w ∈ xs, w.f < w.t ∧ w.t ≤ s.size) (ws : List Wd.Wo) : ∀ (i : Nat) (T : List UInt8), xs.drop i = ws → i + ws.length = xs.length →
    T.length + ws.length * (s.size + 4) ≤ 10000000 →
    Ev (fun k => (words_Fields.f (S (T ++ Wd.joined (chunks s.data.toList by_ i ws))) 0 ((S (T ++ Wd.joined (chunks s.data.toList by_ i ws))).size : Int)).bind fun t203 => (if ((xs.map toS).length : Int) = (t203.length : Int) then (entrepotlaw03_WordsJoined.l1 k s (xs.map toS) (S (T ++ Wd.joined (chunks s.data.toList by_ i ws))) t203 0) else (some false))) true →
    Ev (fun k => entrepotlaw03_WordsJoined.l0 k s by_ (xs.map toS) (S T) (i : Int)) true := by
  induction ws with
  | nil =>
    intro i T hd hi hT h
    have hi : i = xs.length := by simpa using hi
    rw [show T ++ Wd.joined (chunks s.data.toList by_ i []) = T by simp [chunks, Wd.joined]] at h
    refine Ev.step (fun k => ?_) h
    simp only [entrepotlaw03_WordsJoined.l0]
    rw [if_neg (by rw [List.length_map]; omega)]
  | cons w ws ih =>
    intro i T hd hi hT h
    rw [List.length_cons] at hi hT
    have hlt : i < xs.length := by omega
    rw [List.drop_eq_getElem_cons hlt] at hd
    have hw : xs[i] = w := (List.cons.inj hd).1
    have hwx := hx w (hw ▸ List.getElem_mem hlt)
    have hrd := rd24 xs i hlt
    rw [hw] at hrd
    have hpl := Wd.part_len s.data.toList w.f w.t hwx.2
    have t1 := textW s w.f w.t (by omega) hwx.2
    have hmul : (ws.length + 1) * (s.size + 4) = ws.length * (s.size + 4) + (s.size + 4) := by rw [Nat.add_mul, Nat.one_mul]
    generalize hmm : ws.length * (s.size + 4) = mm at hmul hT ih
    rw [hmul] at hT
    have hex : (ex by_ i).length ≤ 2 := by unfold ex; split <;> simp
    have hnext := ih (i + 1) (T ++ Wd.part s.data.toList w.f w.t ++ [32] ++ ex by_ i) (List.cons.inj hd).2 (by omega) (by simp only [List.length_append, List.length_singleton]; rw [hpl]; omega) (by
      have e : T ++ Wd.part s.data.toList w.f w.t ++ [32] ++ ex by_ i ++ Wd.joined (chunks s.data.toList by_ (i + 1) ws) = T ++ Wd.joined (chunks s.data.toList by_ i (w :: ws)) := by
        simp only [chunks]
        rw [Wd.joined_cons]; simp
      rw [e]; exact h)
    refine Ev.step (fun k => ?_) hnext
    simp only [entrepotlaw03_WordsJoined.l0]
    have e0 : (toS w).f0 = (w.f : Int) := rfl
    have e1 : (toS w).f1 = (w.t : Int) := rfl
    have e32 : (⟨#[32]⟩ : ByteArray) = S [32] := rfl
    have e932 : (⟨#[9, 32]⟩ : ByteArray) = S [9, 32] := rfl
    rw [if_pos (by rw [List.length_map]; omega), if_pos (by omega), hrd, e0, e1, t1, Option.bind_some, S_size, S_size, hpl, if_pos (by omega), e32, e932, S_append, S_append, S_append, S_size, S_size, if_pos (by rw [List.length_append, hpl]; omega)]
    by_cases ho : odd by_ i
    · have hx2 : ex by_ i = [9, 32] := by unfold ex; rw [if_pos ho]
      rw [if_pos (by have := ho.1; omega), if_pos ho.2, if_pos (by simp only [List.length_append, List.length_singleton]; rw [hpl]; omega), next_ i (by omega), hx2]
    · have hx2 : ex by_ i = [] := by unfold ex; rw [if_neg ho]
      rw [hx2, List.append_nil]
      by_cases h1 : i < by_.length
      · rw [if_pos (by omega), if_neg (fun e => ho ⟨h1, e⟩), next_ i (by omega)]
      · rw [if_neg (by omega), next_ i (by omega)]
theorem joined_len (l : List UInt8) (by_ : List Int) (n : Nat) (ws : List Wd.Wo) (h : ∀ w ∈ ws, w.f < w.t ∧ w.t ≤ l.length) (hn : l.length ≤ n) : ∀ i, (Wd.joined (chunks l by_ i ws)).length ≤ ws.length * (n + 4) := by
  induction ws with
  | nil => intro i; simp [chunks, Wd.joined]
  | cons w ws ih =>
    intro i
    have := ih (fun w hw => h w (List.mem_cons_of_mem _ hw)) (i + 1)
    have hw := h w (List.mem_cons_self)
    have hpl := Wd.part_len l w.f w.t hw.2
    have hex : (ex by_ i).length ≤ 2 := by unfold ex; split <;> simp
    simp only [chunks]
    rw [Wd.joined_cons, List.length_append, List.length_cons, List.length_append, hpl, List.length_cons, Nat.add_mul, Nat.one_mul]
    dsimp only
    omega
theorem WordsJoined : entrepotlaw03_WordsJoined.Pure := by
  intro s by_ hs _ _ _
  have hj : ∀ k, entrepotlaw03_WordsJoined.j0 (k + 1) s by_ true = some true := fun k => by
    simp only [entrepotlaw03_WordsJoined.j0]
    rw [if_pos trivial, shown_ev]; rfl
  by_cases h : (s.size : Int) > 1000
  · exact ⟨1, by unfold entrepotlaw03_WordsJoined.f; rw [if_pos h]; exact hj 0⟩
  by_cases h2 : (by_.length : Int) > 100
  · exact ⟨1, by unfold entrepotlaw03_WordsJoined.f; rw [if_neg h, if_pos h2]; exact hj 0⟩
  have hs' : s.size ≤ 1000000000 := by omega
  refine Ev.rounds (g := fun k => entrepotlaw03_WordsJoined.f k s by_) ?_
  unfold entrepotlaw03_WordsJoined.f
  simp only [if_neg h, if_neg h2, shown_ev, Option.bind_some, Bool.not_true]
  have hl := words_len s 0 s.size (Nat.le_refl _)
  have hcov := Wd.cov_words s.data.toList
  rw [size_len] at hcov
  have hin := Wd.cov_in _ _ _ _ hcov
  have hin2 : ∀ w ∈ Wd.words s.data.toList 0 s.size, w.f < w.t ∧ w.t ≤ s.size := fun w hw => ⟨(hin w hw).1, (hin w hw).2.1⟩
  have hwF := wordsF s hs' 0 s.size (by omega) (Nat.le_refl _)
  rw [show ((0 : Nat) : Int) = 0 from rfl] at hwF
  generalize Wd.words s.data.toList 0 s.size = xs at *
  have hgood := chunks_good s.data.toList by_ xs hin 0
  have hjl := joined_len s.data.toList by_ 1000 xs hin2 (by rw [size_len]; omega) 0
  have hfst := chunks_fst s.data.toList by_ xs 0
  have hmul : xs.length * (s.size + 4) ≤ 1001 * 1004 := Nat.mul_le_mul (by omega) (by omega)
  have hmul2 : xs.length * (1000 + 4) ≤ 1001 * 1004 := Nat.mul_le_mul (by omega) (by omega)
  have h0 := joined_l0 s (by omega) by_ xs (by omega) hin2 xs 0 [9] (List.drop_zero ..) (by omega) (by simp only [List.length_singleton]; omega)
  have hwj := Wd.wd_joined (chunks s.data.toList by_ 0 xs) [9] hgood
  rw [hfst] at hwj
  generalize Wd.joined (chunks s.data.toList by_ 0 xs) = J at *
  have hT : (S ([9] ++ J)).size = J.length + 1 := by rw [S_size]; simp
  have hTF := wordsF (S ([9] ++ J)) (by omega) 0 (S ([9] ++ J)).size (by omega) (Nat.le_refl _)
  rw [show ((0 : Nat) : Int) = 0 from rfl] at hTF
  have hms : Wd.words (S ([9] ++ J)).data.toList 0 (S ([9] ++ J)).size = Wd.wd none 1 J := by
    unfold Wd.words
    rw [← size_len, Wd.part_all, S_data]
    exact (Wd.wd_blank none 0 9 J rfl).trans (List.nil_append _)
  have hcov2 := Wd.cov_words (S ([9] ++ J)).data.toList
  rw [size_len] at hcov2
  have hin3 := Wd.cov_in _ _ _ _ hcov2
  rw [hms] at hTF hin3
  have hm2 : ∀ w ∈ Wd.wd none 1 J, w.f ≤ w.t ∧ w.t ≤ (S ([9] ++ J)).size := fun w hw => ⟨by have := (hin3 w hw).1; omega, (hin3 w hw).2.1⟩
  have he : (Wd.wd none 1 J).map (fun w => Wd.part (S ([9] ++ J)).data.toList w.f w.t) = xs.map (fun w => Wd.part s.data.toList w.f w.t) := by
    rw [S_data]; exact hwj
  have h1 := joined_l1 s (S ([9] ++ J)) xs (Wd.wd none 1 J) (by omega) hin2 hm2 he xs.length 0 (by omega)
  have hml : (Wd.wd none 1 J).length = xs.length := by have := congrArg List.length he; simpa using this
  refine Ev.step (fun k => ?_) (h0 ?_)
  · simp only [entrepotlaw03_WordsJoined.j0]
    rw [if_neg (by simp), hwF, Option.bind_some]; rfl
  · simp only [hTF, Option.bind_some]
    rw [List.length_map, List.length_map, hml]
    simp only [if_true]
    exact h1

end Go.Proofs.YtbbkchifbinioaaDoor.Evs
