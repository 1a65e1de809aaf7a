/- jsonic's machine: value, key, walked by hand; the plain functions of its tokens. Conditions: the machine lies as told; the listed variables too. -/
import Derived.Test.YtainnkpoibgkcaaDoorGivenI
namespace Go.Proofs.YtainnkpoibgkcaaDoor
set_option linter.unusedVariables false
set_option linter.unusedSimpArgs false
open Go.RowKit Go.Proofs.YtainnkpoibgkcaaDoor.PAll Go.Proofs.YtainnkpoibgkcaaDoorW.PrintWords Go.Proofs.YtainnkpoibgkcaaDoorW.PrintLast

namespace Js
/-- What a token leaves: what may come next, what is left, what is open, the items; or what is wrong, and where. -/
inductive R where
  | go (want : Int) (l : List UInt8) (st : List UInt8) (its : List S38)
  | bad (at_ : Int) (code : Int)
def pl (N : Nat) (l : List UInt8) : Int := ((N - l.length : Nat) : Int)
def number (N : Nat) (l : List UInt8) (st : List UInt8) (its : List S38) : R := match num (digs l) with
  | some k => .go 2 (l.drop (digs l).length) st (its ++ [⟨1, k, ByteArray.empty, pl N l⟩])
  | none => .bad (pl N l) 190
def text (N : Nat) (kd : Int) (l r : List UInt8) (st : List UInt8) (its : List S38) : R := match txt r [] with
  | .ok t rest => .go 2 rest st (its ++ [⟨kd, 0, YtainnkpoibgkcaaDoor.S t, pl N l⟩])
  | .bad rest => .bad (pl N rest) 190
def begin_ (N : Nat) (c : UInt8) (l r : List UInt8) (st : List UInt8) (its : List S38) : R :=
  if st.length = 16 then .bad (pl N l) 191 else .go (nxOf c r) (skip r) (enOf c :: st) (its ++ [⟨kdOf c, 0, ByteArray.empty, pl N l⟩])
def value_ (N : Nat) (st : List UInt8) (its : List S38) (l : List UInt8) : R := match l with
  | [] => number N [] st its
  | c :: r => if c = 34 then text N 2 (c :: r) r st its else if c = 91 ∨ c = 123 then begin_ N c (c :: r) r st its else number N (c :: r) st its
def value (N : Nat) (l : List UInt8) (st : List UInt8) (its : List S38) : R := value_ N st its (skip l)
def colon (N : Nat) (st : List UInt8) (its : List S38) (l : List UInt8) : R := match l with
  | [] => .bad (pl N []) 190
  | c :: r => if c = 58 then .go 0 r st its else .bad (pl N (c :: r)) 190
def key_ (N : Nat) (st : List UInt8) (its : List S38) (l : List UInt8) : R := match l with
  | [] => .bad (pl N []) 190
  | c :: r => if c = 34 then (match txt r [] with
      | .ok t rest => colon N st (its ++ [⟨6, 0, YtainnkpoibgkcaaDoor.S t, pl N (c :: r)⟩]) (skip rest)
      | .bad rest => .bad (pl N rest) 190) else .bad (pl N (c :: r)) 190
def key (N : Nat) (l : List UInt8) (st : List UInt8) (its : List S38) : R := key_ N st its (skip l)
def more_ (N : Nat) (en : UInt8) (st : List UInt8) (its : List S38) (l : List UInt8) : R := match l with
  | [] => .bad (pl N []) 190
  | c :: r => if c = en then .go 2 r st (its ++ [⟨5, 0, ByteArray.empty, pl N (c :: r)⟩]) else if c = 44 then .go (if en = 125 then 1 else 0) r (en :: st) its else .bad (pl N (c :: r)) 190
def more (N : Nat) (l : List UInt8) (st : List UInt8) (its : List S38) : R := match st with
  | [] => .bad 0 0
  | en :: st => more_ N en st its (skip l)
theorem txt_rest : ∀ (n : Nat) (l acc : List UInt8) {t rest : List UInt8}, l.length ≤ n → txt l acc = .ok t rest → rest <:+ l ∧ rest.length < l.length
  | n, [], acc, t, rest, _, h => by rw [txt] at h; cases h
  | 0, c :: r, acc, t, rest, hn, h => by simp at hn
  | n + 1, c :: r, acc, t, rest, hn, h => by
    rw [txt] at h
    by_cases h1 : c = 34
    · rw [if_pos h1] at h
      cases h
      exact ⟨List.suffix_cons _ _, by simp⟩
    · rw [if_neg h1] at h
      by_cases h2 : c = 92
      · rw [if_pos h2] at h
        split at h
        · cases h
        · rename_i m k hs
          have h3 := txt_rest n (r.drop k) (acc ++ [m]) (by rw [List.length_drop]; simp at hn; omega) h
          have h4 := List.drop_suffix k r
          exact ⟨(h3.1.trans h4).trans (List.suffix_cons _ _), by have := h4.length_le; simp; omega⟩
      · rw [if_neg h2] at h
        split at h
        · cases h
        · have h3 := txt_rest n r (acc ++ [c]) (by simp at hn; omega) h
          exact ⟨h3.1.trans (List.suffix_cons _ _), by simp; omega⟩
end Js
/-! The walks, each way by itself. -/
section
variable {w : World} {B : Nat} {P : World → Prop} {Q : World → World → Prop} {z : Int} {b : Bool}
set_option maxRecDepth 100000 in
set_option maxHeartbeats 2000000 in
theorem value_num (hpk : Calls Tryd.prog 27 #[.pointer (some ⟨B, 0, none⟩)] w fun e w' => e = .returned (.int .u8 z) ∧ P w') (h1 : (z == 34) = false) (h2 : (z == 91) = false) (h3 : (z == 123) = false)
    (hc : ∀ W, P W → Calls Tryd.prog 40 #[.pointer (some ⟨B, 0, none⟩)] W fun e w' => e = .returned (.bool b) ∧ Q W w') :
    Calls Tryd.prog 24 #[.pointer (some ⟨B, 0, none⟩)] w fun e w' => e = .returned (.tuple #[.int .i64 2, .bool b]) ∧ ∃ W, P W ∧ Q W w' := by
  replace hpk := Aside0.mk hpk
  replace hc := Aside0.mk hc
  go_enter Tryd.func24, Tryd.ntmps24
  go_wp2_with fail
  refine hpk.out.mono ?_
  rintro e W1 ⟨rfl, hP⟩
  replace hP := Aside0.mk hP
  go_wp2_with fail
  refine (hc.out W1 hP.out).mono ?_
  rintro e W2 ⟨rfl, hQ⟩
  replace hQ := Aside0.mk hQ
  go_wp2_with fail
  go_ret2
  exact ⟨rfl, W1, hP.out, hQ.out⟩
set_option maxRecDepth 100000 in
set_option maxHeartbeats 2000000 in
theorem value_text (hpk : Calls Tryd.prog 27 #[.pointer (some ⟨B, 0, none⟩)] w fun e w' => e = .returned (.int .u8 34) ∧ P w')
    (hc : ∀ W, P W → Calls Tryd.prog 38 #[.pointer (some ⟨B, 0, none⟩), .int .i64 2] W fun e w' => e = .returned (.bool b) ∧ Q W w') :
    Calls Tryd.prog 24 #[.pointer (some ⟨B, 0, none⟩)] w fun e w' => e = .returned (.tuple #[.int .i64 2, .bool b]) ∧ ∃ W, P W ∧ Q W w' := by
  replace hpk := Aside0.mk hpk
  replace hc := Aside0.mk hc
  go_enter Tryd.func24, Tryd.ntmps24
  go_wp2_with fail
  refine hpk.out.mono ?_
  rintro e W1 ⟨rfl, hP⟩
  replace hP := Aside0.mk hP
  go_wp2_with fail
  refine (hc.out W1 hP.out).mono ?_
  rintro e W2 ⟨rfl, hQ⟩
  replace hQ := Aside0.mk hQ
  go_wp2_with fail
  go_ret2
  exact ⟨rfl, W1, hP.out, hQ.out⟩
set_option maxRecDepth 100000 in
set_option maxHeartbeats 2000000 in
theorem value_begin {x : Int} (hz : z = 91 ∨ z = 123) (hpk : Calls Tryd.prog 27 #[.pointer (some ⟨B, 0, none⟩)] w fun e w' => e = .returned (.int .u8 z) ∧ P w')
    (hc : ∀ W, P W → Calls Tryd.prog 39 #[.pointer (some ⟨B, 0, none⟩), .int .u8 z] W fun e w' => e = .returned (.tuple #[.int .i64 x, .bool b]) ∧ Q W w') :
    Calls Tryd.prog 24 #[.pointer (some ⟨B, 0, none⟩)] w fun e w' => e = .returned (.tuple #[.int .i64 x, .bool b]) ∧ ∃ W, P W ∧ Q W w' := by
  replace hpk := Aside0.mk hpk
  replace hc := Aside0.mk hc
  rcases hz with rfl | rfl
  all_goals
    go_enter Tryd.func24, Tryd.ntmps24
    go_wp2_with fail
    refine hpk.out.mono ?_
    rintro e W1 ⟨rfl, hP⟩
    replace hP := Aside0.mk hP
    go_wp2_with fail
    refine (hc.out W1 hP.out).mono ?_
    rintro e W2 ⟨rfl, hQ⟩
    replace hQ := Aside0.mk hQ
    go_wp2_with fail
    go_ret2
    exact ⟨rfl, W1, hP.out, hQ.out⟩
set_option maxRecDepth 100000 in
set_option maxHeartbeats 2000000 in
theorem key_bad1 {a : Int} (hpk : Calls Tryd.prog 27 #[.pointer (some ⟨B, 0, none⟩)] w fun e w' => e = .returned (.int .u8 z) ∧ P w') (h1 : (z != 34) = true) (hat : ∀ W, P W → W.cell? ⟨B, 1, none⟩ = some (.int .i64 a))
    (hc : ∀ W, P W → Calls Tryd.prog 28 #[.pointer (some ⟨B, 0, none⟩), .int .i64 a, .int .i64 190] W fun e w' => e = .returned (.bool false) ∧ Q W w') :
    Calls Tryd.prog 25 #[.pointer (some ⟨B, 0, none⟩)] w fun e w' => e = .returned (.tuple #[.int .i64 0, .bool false]) ∧ ∃ W, P W ∧ Q W w' := by
  replace hpk := Aside0.mk hpk
  replace hc := Aside0.mk hc
  replace hat := Aside0.mk hat
  go_enter Tryd.func25, Tryd.ntmps25
  go_wp2_with fail
  refine hpk.out.mono ?_
  rintro e W1 ⟨rfl, hP⟩
  have c1 := hat.out W1 hP
  replace hP := Aside0.mk hP
  go_wp2_with fail
  refine (hc.out W1 hP.out).mono ?_
  rintro e W2 ⟨rfl, hQ⟩
  replace hQ := Aside0.mk hQ
  go_wp2_with fail
  go_ret2
  exact ⟨rfl, W1, hP.out, hQ.out⟩
set_option maxRecDepth 100000 in
set_option maxHeartbeats 2000000 in
theorem key_bad2 (hpk : Calls Tryd.prog 27 #[.pointer (some ⟨B, 0, none⟩)] w fun e w' => e = .returned (.int .u8 34) ∧ P w')
    (hc : ∀ W, P W → Calls Tryd.prog 38 #[.pointer (some ⟨B, 0, none⟩), .int .i64 6] W fun e w' => e = .returned (.bool false) ∧ Q W w') :
    Calls Tryd.prog 25 #[.pointer (some ⟨B, 0, none⟩)] w fun e w' => e = .returned (.tuple #[.int .i64 0, .bool false]) ∧ ∃ W, P W ∧ Q W w' := by
  replace hpk := Aside0.mk hpk
  replace hc := Aside0.mk hc
  go_enter Tryd.func25, Tryd.ntmps25
  go_wp2_with fail
  refine hpk.out.mono ?_
  rintro e W1 ⟨rfl, hP⟩
  replace hP := Aside0.mk hP
  go_wp2_with fail
  refine (hc.out W1 hP.out).mono ?_
  rintro e W2 ⟨rfl, hQ⟩
  replace hQ := Aside0.mk hQ
  go_wp2_with fail
  go_ret2
  exact ⟨rfl, W1, hP.out, hQ.out⟩
set_option maxRecDepth 100000 in
set_option maxHeartbeats 2000000 in
theorem key_bad3 {P2 : World → Prop} {a : Int} (hpk : Calls Tryd.prog 27 #[.pointer (some ⟨B, 0, none⟩)] w fun e w' => e = .returned (.int .u8 34) ∧ P w')
    (ht : ∀ W, P W → Calls Tryd.prog 38 #[.pointer (some ⟨B, 0, none⟩), .int .i64 6] W fun e w' => e = .returned (.bool true) ∧ Q W w')
    (hp2 : ∀ W1 W, P W1 → Q W1 W → Calls Tryd.prog 27 #[.pointer (some ⟨B, 0, none⟩)] W fun e w' => e = .returned (.int .u8 z) ∧ P2 w') (h1 : (z != 58) = true) (hat : ∀ W, P2 W → W.cell? ⟨B, 1, none⟩ = some (.int .i64 a))
    {Q2 : World → World → Prop} (hc : ∀ W, P2 W → Calls Tryd.prog 28 #[.pointer (some ⟨B, 0, none⟩), .int .i64 a, .int .i64 190] W fun e w' => e = .returned (.bool false) ∧ Q2 W w') :
    Calls Tryd.prog 25 #[.pointer (some ⟨B, 0, none⟩)] w fun e w' => e = .returned (.tuple #[.int .i64 0, .bool false]) ∧ ∃ W, P2 W ∧ Q2 W w' := by
  replace hpk := Aside0.mk hpk
  replace ht := Aside0.mk ht
  replace hp2 := Aside0.mk hp2
  replace hc := Aside0.mk hc
  replace hat := Aside0.mk hat
  go_enter Tryd.func25, Tryd.ntmps25
  go_wp2_with fail
  refine hpk.out.mono ?_
  rintro e W1 ⟨rfl, hP⟩
  replace hP := Aside0.mk hP
  go_wp2_with fail
  refine (ht.out W1 hP.out).mono ?_
  rintro e W2 ⟨rfl, hQ⟩
  replace hQ := Aside0.mk hQ
  go_wp2_with fail
  refine (hp2.out W1 W2 hP.out hQ.out).mono ?_
  rintro e W3 ⟨rfl, hP2⟩
  have c1 := hat.out W3 hP2
  replace hP2 := Aside0.mk hP2
  go_wp2_with fail
  refine (hc.out W3 hP2.out).mono ?_
  rintro e W4 ⟨rfl, hQ2⟩
  replace hQ2 := Aside0.mk hQ2
  go_wp2_with fail
  go_ret2
  exact ⟨rfl, W3, hP2.out, hQ2.out⟩
set_option maxRecDepth 100000 in
set_option maxHeartbeats 2000000 in
theorem key_good {P2 : World → Prop} {a : Int} (hpk : Calls Tryd.prog 27 #[.pointer (some ⟨B, 0, none⟩)] w fun e w' => e = .returned (.int .u8 34) ∧ P w')
    (ht : ∀ W, P W → Calls Tryd.prog 38 #[.pointer (some ⟨B, 0, none⟩), .int .i64 6] W fun e w' => e = .returned (.bool true) ∧ Q W w')
    (hp2 : ∀ W1 W, P W1 → Q W1 W → Calls Tryd.prog 27 #[.pointer (some ⟨B, 0, none⟩)] W fun e w' => e = .returned (.int .u8 58) ∧ P2 w') (hat : ∀ W, P2 W → W.cell? ⟨B, 1, none⟩ = some (.int .i64 a) ∧ W.frozen? ⟨B, 1, none⟩ = false) (ha0 : 0 ≤ a) (ha : a ≤ 1000000000) :
    Calls Tryd.prog 25 #[.pointer (some ⟨B, 0, none⟩)] w fun e w' => e = .returned (.tuple #[.int .i64 0, .bool true]) ∧ ∃ W, P2 W ∧ w' = W.setCell ⟨B, 1, none⟩ (.int .i64 (a + 1)) := by
  replace hpk := Aside0.mk hpk
  replace ht := Aside0.mk ht
  replace hp2 := Aside0.mk hp2
  replace hat := Aside0.mk hat
  go_enter Tryd.func25, Tryd.ntmps25
  go_wp2_with fail
  refine hpk.out.mono ?_
  rintro e W1 ⟨rfl, hP⟩
  replace hP := Aside0.mk hP
  go_wp2_with fail
  refine (ht.out W1 hP.out).mono ?_
  rintro e W2 ⟨rfl, hQ⟩
  replace hQ := Aside0.mk hQ
  go_wp2_with fail
  refine (hp2.out W1 W2 hP.out hQ.out).mono ?_
  rintro e W3 ⟨rfl, hP2⟩
  obtain ⟨c1, f1⟩ := hat.out W3 hP2
  replace hP2 := Aside0.mk hP2
  go_wp2_with fail
  go_ret2
  exact ⟨rfl, W3, hP2.out, rfl⟩
end
end Go.Proofs.YtainnkpoibgkcaaDoor
