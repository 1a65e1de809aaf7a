/- The law WordsPaired, in plain Lean. Conditions: none (beyond the printed law's own). -/
import Derived.Test.YtbbkchifbinioaaDoorPAllx10
import Derived.Test.YtbbkchifbinioaaDoorEvG
namespace Go.Proofs.YtbbkchifbinioaaDoor.Evs
set_option linter.unusedVariables false
set_option linter.unusedSimpArgs false
open Go.RowKit Go.Proofs.YtbbkchifbinioaaDoor.PAll Go.Proofs.YtbbkchifbinioaaDoorW.PrintWords Go.Proofs.YtbbkchifbinioaaDoorW.PrintLast

theorem S_toList (l : List UInt8) : (S l).toList = l := by rw [ByteArray.toList_eq, S_data]
theorem S_append (a b : List UInt8) : S a ++ S b = S (a ++ b) := S_ext (by rw [S_data, ByteArray.data_append]; simp [S])
theorem wf_u8 {n : Int} (h : (Lit.int .u8 n).wf = true) : 0 ≤ n ∧ n ≤ 255 := by
  simpa [Lit.wf, IntKind.min, IntKind.max, IntKind.signed, IntKind.bits] using h

theorem textW (s : ByteArray) (a b : Nat) (hab : a ≤ b) (hb : b ≤ s.size) : words_Text.f s (a : Int) (b : Int) = some (S (Wd.part s.data.toList a b)) := by
  rw [textF]; exact refTextF s a b hab hb
/-! Paired. -/
theorem gap_l0 (s v : ByteArray) (a2 : Int) (q : Nat) (hq : Int.tmod (wrap64 a2) 4 = (q : Int)) (hq3 : q ≤ 3) (d : Nat) : ∀ i : Nat, i + d = q →
    Ev (fun k => entrepotlaw03_WordsPaired.l0 k s v a2 (S (List.replicate q 32)) (q : Int)) true →
    Ev (fun k => entrepotlaw03_WordsPaired.l0 k s v a2 (S (List.replicate i 32)) (i : Int)) true := by
  induction d with
  | zero =>
    intro i hi h
    obtain rfl : i = q := by omega
    exact h
  | succ d ih =>
    intro i hi h
    have hnext := ih (i + 1) (by omega) h
    rw [List.replicate_succ'] at hnext
    refine Ev.step (fun k => ?_) hnext
    simp only [entrepotlaw03_WordsPaired.l0]
    rw [if_pos (by rw [hq]; omega), if_pos (by rw [S_size, List.length_replicate]; omega), next_ i (by omega), show (⟨#[32]⟩ : ByteArray) = S [32] from rfl, S_append]
theorem cap_sign (c : UInt8) (h : Wd.cap c.toNat = true) : Wd.isB c = false ∧ c ≠ 58 := by
  have hc := (cap_iff _).1 h
  constructor
  · rw [← isB_nat]; simp; omega
  · rintro rfl
    exact absurd hc (by decide)
/-- The end of the law: a key, a value without blanks at its ends, a gap. -/
theorem paired_end (s v : ByteArray) (hv : v.size ≤ 200) (a2 : Int) (q : Nat) (hq : Int.tmod (wrap64 a2) 4 = (q : Int)) (hq3 : q ≤ 3)
    (hk1 : Wd.okName Wd.cap s.data.toList = true) (hv1 : Wd.tL v.data.toList = v.data.toList) (hv2 : Wd.tR v.data.toList = v.data.toList) :
    Ev (fun k => entrepotlaw03_WordsPaired.l0 k s v a2 (S (List.replicate q 32)) (q : Int)) true := by
  have hs40 : s.size ≤ 40 := by
    unfold Wd.okName at hk1
    rw [Bool.and_eq_true] at hk1
    have := of_decide_eq_true hk1.2
    exact this
  have hcap : ∀ c ∈ s.data.toList, Wd.isB c = false ∧ c ≠ 58 := by
    unfold Wd.okName Wd.allOf at hk1
    rw [Bool.and_eq_true, Bool.and_eq_true, List.all_eq_true] at hk1
    exact fun c hc => cap_sign c (hk1.1.1 c hc)
  obtain ⟨l, hl⟩ : ∃ l, s.data.toList = l := ⟨_, rfl⟩
  obtain ⟨u, hu⟩ : ∃ u, v.data.toList = u := ⟨_, rfl⟩
  have hsl : l.length = s.size := by rw [← hl]; rfl
  have hvl : u.length = v.size := by rw [← hu]; rfl
  have hsS : s = S l := by rw [← hl, S_of]
  have hvS : v = S u := by rw [← hu, S_of]
  rw [hl] at hk1 hcap
  rw [hu] at hv1 hv2
  obtain ⟨G, hG⟩ : ∃ G, List.replicate q (32 : UInt8) = G := ⟨_, rfl⟩
  have hGl : G.length = q := by rw [← hG, List.length_replicate]
  have hGb : ∀ c ∈ G, Wd.isB c = true := by rw [← hG]; intro c hc; rw [(List.mem_replicate.1 hc).2]; rfl
  have hG58 : ∀ c ∈ G, c ≠ 58 := by rw [← hG]; intro c hc; rw [(List.mem_replicate.1 hc).2]; decide
  rw [hG]
  have hltL : Wd.tL l = l := Wd.tL_signs l (fun c hc => (hcap c hc).1)
  have hltR : Wd.tR l = l := Wd.tR_signs l (fun c hc => (hcap c hc).1)
  obtain ⟨F, hF⟩ : ∃ F, G ++ l ++ G ++ [58] ++ G ++ u ++ G = F := ⟨_, rfl⟩
  have hFl : F.length = 4 * q + l.length + 1 + u.length := by rw [← hF]; simp only [List.length_append, List.length_singleton, hGl]; omega
  have hFe : F = (G ++ l ++ G ++ [58]) ++ (G ++ u ++ G) := by rw [← hF]; simp
  have hcut : Wd.cutK F = (G ++ l ++ G, G ++ u ++ G) := by
    have := Wd.cutK_of (G ++ l ++ G) (G ++ u ++ G) true (by
      simp only [List.mem_append, not_or]
      exact ⟨⟨fun h => hG58 _ h rfl, fun h => (hcap _ h).2 rfl⟩, fun h => hG58 _ h rfl⟩) (fun h => by cases h)
    rw [if_pos rfl] at this
    rw [hFe, ← this]; simp
  have hkey : Wd.key F 0 F.length = (l, (Wd.value F.length (G ++ u ++ G)).1, (Wd.value F.length (G ++ u ++ G)).2, true) := by
    unfold Wd.key
    rw [Wd.part_all, hcut]
    simp only
    rw [Wd.tB_around G l G hGb hGb hltL hltR, if_pos hk1]
  have hval := Wd.value_part (G ++ l ++ G ++ [58]) G u G hGb hGb hv1 hv2
  rw [← hFe] at hval
  have hcut2 : Wd.cutK (l ++ G) = (l ++ G, []) := by
    have := Wd.cutK_of (l ++ G) [] false (by
      simp only [List.mem_append, not_or]
      exact ⟨fun h => (hcap _ h).2 rfl, fun h => hG58 _ h rfl⟩) (fun _ => rfl)
    rwa [if_neg (by simp)] at this
  have hkey2 : Wd.key (l ++ G) 0 (l ++ G).length = (l, (l ++ G).length, (l ++ G).length, true) := by
    unfold Wd.key
    rw [Wd.part_all, hcut2]
    simp only
    have := Wd.tB_around [] l G (fun c hc => by cases hc) hGb hltL hltR
    rw [List.nil_append] at this
    rw [this, if_pos hk1]
    rfl
  have hZ : (S F).size = F.length := S_size F
  have hZ2 : (S (l ++ G)).size = (l ++ G).length := S_size _
  have k1 := keyF (S F) (by omega) 0 (S F).size (by omega) (Nat.le_refl _)
  have k2 := keyF (S (l ++ G)) (by rw [hZ2, List.length_append]; omega) 0 (S (l ++ G)).size (by omega) (Nat.le_refl _)
  rw [show key4 (S F) 0 (S F).size = (S l, ((Wd.value F.length (G ++ u ++ G)).1 : Int), ((Wd.value F.length (G ++ u ++ G)).2 : Int), true) by unfold key4; rw [S_data, hZ, hkey], show ((0 : Nat) : Int) = 0 from rfl] at k1
  rw [show key4 (S (l ++ G)) 0 (S (l ++ G)).size = (S l, ((l ++ G).length : Int), ((l ++ G).length : Int), true) by unfold key4; rw [S_data, hZ2, hkey2], show ((0 : Nat) : Int) = 0 from rfl] at k2
  have t1 := textW (S F) _ _ hval.2.1 (by rw [hZ]; exact hval.2.2)
  rw [S_data, hval.1] at t1
  have hw : wrap64 ((s.size : Int) + ((S G).size : Int)) = ((S (l ++ G)).size : Int) := by rw [w64 _ (by rw [S_size]; omega) (by rw [S_size]; omega), S_size, hZ2, List.length_append, hsl, hGl]; omega
  have eF : ((((((S G ++ s) ++ S G) ++ (⟨#[58]⟩ : ByteArray)) ++ S G) ++ v) ++ S G) = S F := by
    rw [hsS, hvS, show (⟨#[58]⟩ : ByteArray) = S [58] from rfl, S_append, S_append, S_append, S_append, S_append, S_append, hF]
  have e5 : (((((S G ++ s) ++ S G) ++ (⟨#[58]⟩ : ByteArray)) ++ S G) ++ v) = S (G ++ l ++ G ++ [58] ++ G ++ u) := by
    rw [hsS, hvS, show (⟨#[58]⟩ : ByteArray) = S [58] from rfl, S_append, S_append, S_append, S_append, S_append]
  have e4 : ((((S G ++ s) ++ S G) ++ (⟨#[58]⟩ : ByteArray)) ++ S G) = S (G ++ l ++ G ++ [58] ++ G) := by
    rw [hsS, show (⟨#[58]⟩ : ByteArray) = S [58] from rfl, S_append, S_append, S_append, S_append]
  have e3 : (((S G ++ s) ++ S G) ++ (⟨#[58]⟩ : ByteArray)) = S (G ++ l ++ G ++ [58]) := by
    rw [hsS, show (⟨#[58]⟩ : ByteArray) = S [58] from rfl, S_append, S_append, S_append]
  have e2 : ((S G ++ s) ++ S G) = S (G ++ l ++ G) := by rw [hsS, S_append, S_append]
  have e1 : (S G ++ s) = S (G ++ l) := by rw [hsS, S_append]
  have eK : s ++ S G = S (l ++ G) := by rw [hsS, S_append]
  have hGz : (S G).size = q := by rw [S_size, hGl]
  have hlt : s.toList = l := by rw [ByteArray.toList_eq, hl]
  have hut : v.toList = u := by rw [ByteArray.toList_eq, hu]
  refine Ev.one fun k => ?_
  simp only [entrepotlaw03_WordsPaired.l0]
  rw [eF, e5, e4, e3, e2, e1, eK, hw, k1, k2]
  simp only [S_size, List.length_append, List.length_singleton, hGl, hsl, hvl]
  rw [if_neg (by rw [hq]; omega), if_pos (by omega), if_pos (by omega), if_pos (by omega), if_pos (by omega), if_pos (by omega), if_pos (by omega), Option.bind_some, Option.bind_some]
  simp only
  simp only [hlt, S_toList, t1, Option.bind_some, hut, if_true, if_pos (show s.size + q ≤ 9223372036854775807 by omega), BEq.rfl, Bool.and_self]
theorem paired_j1 (s v : ByteArray) (hv : v.size ≤ 200) (a2 : Int) (h2 : 0 ≤ a2 ∧ a2 ≤ 255) (hk1 : Wd.okName Wd.cap s.data.toList = true) (x : Bool) (h : x = false → Wd.tL v.data.toList = v.data.toList ∧ Wd.tR v.data.toList = v.data.toList) :
    Ev (fun k => entrepotlaw03_WordsPaired.j1 k s v a2 x) true := by
  cases x with
  | true => exact Ev.one fun k => by simp only [entrepotlaw03_WordsPaired.j1]; rfl
  | false =>
    obtain ⟨hv1, hv2⟩ := h rfl
    obtain ⟨n, rfl⟩ := Int.eq_ofNat_of_zero_le h2.1
    have hq : Int.tmod (wrap64 (n : Int)) 4 = ((n % 4 : Nat) : Int) := by rw [w64 _ (by omega) (by omega)]; rfl
    have hend := paired_end s v hv n (n % 4) hq (by omega) hk1 hv1 hv2
    have h0 := gap_l0 s v n (n % 4) hq (by omega) (n % 4) 0 (by omega) hend
    refine Ev.step (fun k => ?_) h0
    simp only [entrepotlaw03_WordsPaired.j1]
    rw [if_neg (by simp)]; rfl
theorem WordsPaired : entrepotlaw03_WordsPaired.Pure := by
  intro s v a2 hs hvs h2
  have h2 := wf_u8 h2
  have hj : Ev (fun k => entrepotlaw03_WordsPaired.j0 k s v a2 true) true := Ev.one fun k => by
    simp only [entrepotlaw03_WordsPaired.j0]
    rw [if_pos trivial, shown_ev]; rfl
  have k0 := keyF s hs 0 s.size (by omega) (Nat.le_refl _)
  rw [show ((0 : Nat) : Int) = 0 from rfl] at k0
  refine Ev.rounds (g := fun k => entrepotlaw03_WordsPaired.f k s v a2) ?_
  unfold entrepotlaw03_WordsPaired.f
  simp only [k0, Option.bind_some, shown_ev, Bool.not_true]
  by_cases c1 : (key4 s 0 s.size).2.2.2 = true
  · simp only [if_pos c1]
    by_cases c2 : (key4 s 0 s.size).1.toList = s.toList
    · simp only [if_pos c2]
      by_cases c3 : (v.size : Int) > 200
      · simp only [if_pos c3]; exact hj
      · simp only [if_neg c3]
        have hk1 : Wd.okName Wd.cap s.data.toList = true := by
          unfold key4 Wd.key at c1 c2
          rw [S_toList, ByteArray.toList_eq] at c2
          split at c1
          · rename_i h
            rw [if_pos h] at c2
            rw [← c2]; exact h
          · cases c1
        have hv' : v.size ≤ 200 := by omega
        have hcov := Wd.cov_words v.data.toList
        rw [size_len] at hcov
        have hin := Wd.cov_in _ _ _ _ hcov
        have hrf := refFields v (by omega) 0 v.size (by omega) (Nat.le_refl _)
        have hwl := words_len v 0 v.size (Nat.le_refl _)
        rw [show ((0 : Nat) : Int) = 0 from rfl] at hrf
        refine Ev.step (f := fun k => (entrepotref03_Fields.f k v 0 (v.size : Int)).bind fun t217 => (if (t217.length : Int) > 0 then (if 0 < (t217.length : Int) then (if ((rd_T27 t217 0).f0) = 0 then (if 0 ≤ (wrap64 ((t217.length : Int) - 1)) then (if (wrap64 ((t217.length : Int) - 1)) < (t217.length : Int) then (if ((rd_T27 t217 (wrap64 ((t217.length : Int) - 1))).f1) = (v.size : Int) then (if (t217.length : Int) = 0 then (entrepotlaw03_WordsPaired.j1 k s v a2 (v.toList != ([] : List UInt8))) else (entrepotlaw03_WordsPaired.j1 k s v a2 false)) else (entrepotlaw03_WordsPaired.j1 k s v a2 true)) else (none)) else (none)) else (entrepotlaw03_WordsPaired.j1 k s v a2 true)) else (none)) else (if (t217.length : Int) = 0 then (entrepotlaw03_WordsPaired.j1 k s v a2 (v.toList != ([] : List UInt8))) else (entrepotlaw03_WordsPaired.j1 k s v a2 false)))) (fun k => by simp only [entrepotlaw03_WordsPaired.j0]; rw [if_neg (by simp)]) ?_
        refine Ev.bind hrf ?_
        generalize Wd.words v.data.toList 0 v.size = ws at hcov hin hwl ⊢
        rw [List.length_map]
        by_cases hws : ws.length = 0
        · simp only [if_neg (show ¬ (ws.length : Int) > 0 by omega), if_pos (show (ws.length : Int) = 0 by omega)]
          refine paired_j1 s v hv' a2 h2 hk1 _ (fun hx => ?_)
          have : v.data.toList = [] := by
            rw [ByteArray.toList_eq] at hx
            simpa using hx
          rw [this]; exact ⟨rfl, rfl⟩
        · have hw1 : wrap64 ((ws.length : Int) - 1) = ((ws.length - 1 : Nat) : Int) := by rw [w64 _ (by omega) (by omega)]; omega
          have r0 := rd27 ws 0 (by omega)
          have r1 := rd27 ws (ws.length - 1) (by omega)
          rw [show ((0 : Nat) : Int) = 0 from rfl] at r0
          simp only [if_pos (show (ws.length : Int) > 0 by omega), if_pos (show 0 < (ws.length : Int) by omega), hw1, r0, r1]
          have e0 : (toR ws[0]).f0 = (ws[0].f : Int) := rfl
          have e1 : (toR ws[ws.length - 1]).f1 = (ws[ws.length - 1].t : Int) := rfl
          simp only [e0, e1]
          by_cases d1 : (ws[0].f : Int) = 0
          · simp only [if_pos d1, if_pos (show (0 : Int) ≤ ((ws.length - 1 : Nat) : Int) by omega), if_pos (show ((ws.length - 1 : Nat) : Int) < (ws.length : Int) by omega)]
            by_cases d2 : (ws[ws.length - 1].t : Int) = (v.size : Int)
            · simp only [if_pos d2, if_neg (show ¬ (ws.length : Int) = 0 by omega)]
              refine paired_j1 s v hv' a2 h2 hk1 _ (fun _ => ?_)
              have i0 := hin ws[0] (List.getElem_mem (by omega))
              have i1 := hin ws[ws.length - 1] (List.getElem_mem (by omega))
              refine Wd.ends_of _ (i0.2.2 0 (by omega) (by omega)) (i1.2.2 _ (by rw [size_len]; omega) (by rw [size_len]; omega)) (fun e => ?_)
              have h3 := size_len v
              rw [e] at h3
              have h4 := i1.1
              simp at h3
              omega
            · simp only [if_neg d2]
              exact paired_j1 s v hv' a2 h2 hk1 _ (fun hx => by cases hx)
          · simp only [if_neg d1]
            exact paired_j1 s v hv' a2 h2 hk1 _ (fun hx => by cases hx)
    · simp only [if_neg c2]; exact hj
  · simp only [if_neg c1]; exact hj
end Go.Proofs.YtbbkchifbinioaaDoor.Evs
