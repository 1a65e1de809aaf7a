/- Texts of this claim, joined: PAllx10, Evs. Each as it was, cut to what the claim uses. Conditions: each theorem's own. -/
import Derived.Test.YtofklpphalalhaaGreatDoorUhJ1
import Derived.Test.YtofklpphalalhaaGreatDoorUhPAllx9
import Derived.Test.YtofklpphalalhaaGreatDoorUhJ4
import Derived.Test.YtofklpphalalhaaGreatDoorUhPAllx8
section
-- Written by a program out of the translation, for several roots at once (set All). Not trusted: Lean checks it.
namespace Go.Proofs.YtofklpphalalhaaGreatDoor.PAll
open Go.RowKit Go.Proofs.YtofklpphalalhaaGreatDoorW.PrintWords Go.Proofs.YtofklpphalalhaaGreatDoorW.PrintLast Go.Proofs.YtofklpphalalhaaGreatDoorW.PrintMore
attribute [local go_sem] min2_int min_two
set_option linter.unusedVariables false
set_option linter.unusedSimpArgs false
/-! ### packet_reader_fine: function 90 -/
def packet_reader_fine.f (s0_0 : ByteArray) (s0_1 : Int) (s0_2 : Int) (s0_3 : Int) : Option (Bool × ByteArray × Int × Int × Int) := some ((s0_3 == 0), s0_0, s0_1, s0_2, s0_3)
set_option maxHeartbeats 8000000 in
set_option maxRecDepth 100000 in
theorem packet_reader_fine.calls (g : Nat) (s0_0 : ByteArray) (s0_1 : Int) (s0_2 : Int) (s0_3 : Int) (r1 : Bool) (r2 : ByteArray) (r3 : Int) (r4 : Int) (r5 : Int) (w0 w : World) (hI : IsS139 w0 w g s0_0 s0_1 s0_2 s0_3) (hB : Below w0.heap.size w0 w) (h : packet_reader_fine.f s0_0 s0_1 s0_2 s0_3 = some (r1, r2, r3, r4, r5)) :
  Calls Tryz.prog 90 #[.pointer (some ⟨g, 0, none⟩)] w fun e w' => e = .returned (.bool r1) ∧ IsS139 w0 w' g r2 r3 r4 r5 ∧ Below w0.heap.size w0 w' ∧ KeepBut w w' g none := by
 have HI0 := Aside0.mk hI
 have HK := Aside0.mk (KeepBut.refl w g none)
 have HL := Aside0.mk hB.size
 clear hI
 have HW0 := Aside0.mk hB.size
 have HB := Aside0.mk hB
 clear hB
 have H : (some ((s0_3 == 0), s0_0, s0_1, s0_2, s0_3)) = some (r1, r2, r3, r4, r5) := h
 clear h
 simp only [Option.some.injEq, Prod.mk.injEq] at H
 obtain ⟨rfl, rfl, rfl, rfl, rfl⟩ := H
 obtain ⟨HGz2, hgz2⟩ := HI0.out
 have hcz2_0 := cellS139_0 HGz2
 have hcz2_1 := cellS139_1 HGz2
 have hcz2_2 := cellS139_2 HGz2
 have hcz2_3 := cellS139_3 HGz2
 have hfz2_0 := blk_frozen HGz2 0
 have hfz2_1 := blk_frozen HGz2 1
 have hfz2_2 := blk_frozen HGz2 2
 have hfz2_3 := blk_frozen HGz2 3
 clear HGz2 hgz2
 go_enter Tryz.func90, Tryz.ntmps90
 go_wp2
 go_ret
 exact ⟨ze, by repeat (first | (with_reducible first | exact HI0.out | apply IsS139.alloc | apply IsS139.drewN | apply IsS139.drew | apply IsS139.set_0 | apply IsS139.set_1 | apply IsS139.set_2 | apply IsS139.set_3) | exact HI0.out), by repeat (first | (with_reducible first | exact HB.out | apply below_alloc | apply pw_below_drewN | apply below_drew1 | refine below_set ?_ (IsS139.ge HI0.out)) | exact HB.out), zkeep HK⟩
/-! ### pack_GetText: function 132 -/
def pack_GetText.f (a0 : ByteArray) (a1 : Int) : Option (ByteArray × Int × Int) := (pack_GetUint.f a0 a1).bind fun bt202 => (if bt202.2.2 = 0 then (if (wrap64 ((a0.size : Int) - bt202.2.1)) < bt202.1 then (some ((⟨#[]⟩ : ByteArray), 0, 211)) else (if 0 ≤ bt202.2.1 then (if bt202.2.1 ≤ (wrap64 (bt202.2.1 + bt202.1)) then (if (wrap64 (bt202.2.1 + bt202.1)) ≤ (a0.size : Int) then (some (a0.extract (bt202.2.1 : Int).toNat ((wrap64 (bt202.2.1 + bt202.1)) : Int).toNat, wrap64 (bt202.2.1 + bt202.1), 0)) else (none)) else (none)) else (none))) else (some ((⟨#[]⟩ : ByteArray), 0, bt202.2.2)))
set_option maxHeartbeats 8000000 in
set_option maxRecDepth 100000 in
theorem pack_GetText.calls (a0 : ByteArray) (a1 : Int) (r1 : ByteArray) (r2 : Int) (r3 : Int) (w : World) (h : pack_GetText.f a0 a1 = some (r1, r2, r3)) :
  Calls Tryz.prog 132 #[.string a0, .int .i64 a1] w fun e w' => e = .returned (.tuple #[.string r1, .int .i64 r2, .int .i64 r3]) ∧ Below w.heap.size w w' := by
 have HB := Aside0.mk (Below.refl w.heap.size w)
 have H : ((pack_GetUint.f a0 a1).bind fun bt202 => (if bt202.2.2 = 0 then (if (wrap64 ((a0.size : Int) - bt202.2.1)) < bt202.1 then (some ((⟨#[]⟩ : ByteArray), 0, 211)) else (if 0 ≤ bt202.2.1 then (if bt202.2.1 ≤ (wrap64 (bt202.2.1 + bt202.1)) then (if (wrap64 (bt202.2.1 + bt202.1)) ≤ (a0.size : Int) then (some (a0.extract (bt202.2.1 : Int).toNat ((wrap64 (bt202.2.1 + bt202.1)) : Int).toNat, wrap64 (bt202.2.1 + bt202.1), 0)) else (none)) else (none)) else (none))) else (some ((⟨#[]⟩ : ByteArray), 0, bt202.2.2)))) = some (r1, r2, r3) := h
 clear h
 replace H := Option.bind_eq_some_iff.mp H
 obtain ⟨⟨t202, t203, t204⟩, A30, H⟩ := H
 have A3 := Aside0.mk A30
 clear A30
 by_cases c4 : t204 = 0
 ·rw [if_pos c4] at H
  have c4b0 := beq_iff_eq.mpr c4
  have c4b1 := bne_eq_false_iff_eq.mpr c4
  clear c4
  by_cases c5 : (wrap64 ((a0.size : Int) - t203)) < t202
  ·rw [if_pos c5] at H
   have c5b0 := decide_eq_true c5
   clear c5
   simp only [Option.some.injEq, Prod.mk.injEq] at H
   obtain ⟨rfl, rfl, rfl⟩ := H
   go_enter Tryz.func132, Tryz.ntmps132
   go_wp2_with (first | ((with_reducible refine gate_callee (f := 179) rfl ?_); refine gl (some 13) Tryz.func179 #[.string a0, .int .i64 a1] rfl ?_; (with_reducible refine (pack_GetUint.calls a0 a1 t202 t203 t204 _ A3.out).mono ?_); rintro e w6 ⟨rfl, hb⟩; refine ⟨_, rfl, ?_⟩; replace HB := am (below_step (zb HB) hb); (try clear hb); (try clear hb2); (try clear hk); (try clear hi)))
   go_ret3
   exact ⟨ze, zb HB⟩
  ·rw [if_neg c5] at H
   have c5b0 := decide_eq_false c5
   clear c5
   by_cases c7 : 0 ≤ t203
   ·rw [if_pos c7] at H
    have c7b0 := eq_true c7
    have c7b1 := decide_eq_true c7
    clear c7
    by_cases c8 : t203 ≤ (wrap64 (t203 + t202))
    ·rw [if_pos c8] at H
     have c8b0 := eq_true c8
     have c8b1 := decide_eq_true c8
     by_cases c9 : (wrap64 (t203 + t202)) ≤ (a0.size : Int)
     ·rw [if_pos c9] at H
      have c9b0 := eq_true c9
      have c9b1 := decide_eq_true c9
      simp only [Option.some.injEq, Prod.mk.injEq] at H
      obtain ⟨rfl, rfl, rfl⟩ := H
      go_enter Tryz.func132, Tryz.ntmps132
      go_wp2_with (first | ((with_reducible refine gate_callee (f := 179) rfl ?_); refine gl (some 13) Tryz.func179 #[.string a0, .int .i64 a1] rfl ?_; (with_reducible refine (pack_GetUint.calls a0 a1 t202 t203 t204 _ A3.out).mono ?_); rintro e w10 ⟨rfl, hb⟩; refine ⟨_, rfl, ?_⟩; replace HB := am (below_step (zb HB) hb); (try clear hb); (try clear hb2); (try clear hk); (try clear hi)))
      go_ret3
      exact ⟨ze, zb HB⟩
     ·rw [if_neg c9] at H
      exact absurd H (by simp)
    ·rw [if_neg c8] at H
     exact absurd H (by simp)
   ·rw [if_neg c7] at H
    exact absurd H (by simp)
 ·rw [if_neg c4] at H
  have c4b0 := beq_eq_false_iff_ne.mpr c4
  have c4b1 := bne_iff_ne.mpr c4
  simp only [Option.some.injEq, Prod.mk.injEq] at H
  obtain ⟨rfl, rfl, rfl⟩ := H
  go_enter Tryz.func132, Tryz.ntmps132
  go_wp2_with (first | ((with_reducible refine gate_callee (f := 179) rfl ?_); refine gl (some 13) Tryz.func179 #[.string a0, .int .i64 a1] rfl ?_; (with_reducible refine (pack_GetUint.calls a0 a1 t202 t203 t204 _ A3.out).mono ?_); rintro e w11 ⟨rfl, hb⟩; refine ⟨_, rfl, ?_⟩; replace HB := am (below_step (zb HB) hb); (try clear hb); (try clear hb2); (try clear hk); (try clear hi)))
  go_ret3
  exact ⟨ze, zb HB⟩
-- NOT PRINTED: function 87 (packet_reader_text)
-- NOT PRINTED: function 133 (packet_reader_number)
/-! ### pack_GetInt: function 180 -/
def pack_GetInt.f (a0 : ByteArray) (a1 : Int) : Option (Int × Int × Int) := (pack_GetUint.f a0 a1).bind fun bt217 => (some (Go.bits .xor .i64 (bt217.1 / 2) (wrap64 (-(Go.bits .and .i64 bt217.1 1))), bt217.2.1, bt217.2.2))
set_option maxHeartbeats 8000000 in
set_option maxRecDepth 100000 in
theorem pack_GetInt.calls (a0 : ByteArray) (a1 : Int) (r1 : Int) (r2 : Int) (r3 : Int) (w : World) (h : pack_GetInt.f a0 a1 = some (r1, r2, r3)) :
  Calls Tryz.prog 180 #[.string a0, .int .i64 a1] w fun e w' => e = .returned (.tuple #[.int .i64 r1, .int .i64 r2, .int .i64 r3]) ∧ Below w.heap.size w w' := by
 have HB := Aside0.mk (Below.refl w.heap.size w)
 have H : ((pack_GetUint.f a0 a1).bind fun bt217 => (some (Go.bits .xor .i64 (bt217.1 / 2) (wrap64 (-(Go.bits .and .i64 bt217.1 1))), bt217.2.1, bt217.2.2))) = some (r1, r2, r3) := h
 clear h
 replace H := Option.bind_eq_some_iff.mp H
 obtain ⟨⟨t217, t218, t219⟩, A30, H⟩ := H
 have A3 := Aside0.mk A30
 clear A30
 simp only [Option.some.injEq, Prod.mk.injEq] at H
 obtain ⟨rfl, rfl, rfl⟩ := H
 go_enter Tryz.func180, Tryz.ntmps180
 go_wp2_with (first | ((with_reducible refine gate_callee (f := 179) rfl ?_); refine gl (some 13) Tryz.func179 #[.string a0, .int .i64 a1] rfl ?_; (with_reducible refine (pack_GetUint.calls a0 a1 t217 t218 t219 _ A3.out).mono ?_); rintro e w4 ⟨rfl, hb⟩; refine ⟨_, rfl, ?_⟩; replace HB := am (below_step (zb HB) hb); (try clear hb); (try clear hb2); (try clear hk); (try clear hi)))
 go_ret3
 exact ⟨ze, zb HB⟩
/-! ### packet_spot_int: function 134 -/
def packet_spot_int.f (a0_0 : ByteArray) (a0_1 : Int) : Option (Int × Int × Int) := (pack_GetInt.f a0_0 a0_1).bind fun bt221 => (some (bt221.1, bt221.2.1, bt221.2.2))
set_option maxHeartbeats 8000000 in
set_option maxRecDepth 100000 in
theorem packet_spot_int.calls (a0_0 : ByteArray) (a0_1 : Int) (r1 : Int) (r2 : Int) (r3 : Int) (w : World) (h : packet_spot_int.f a0_0 a0_1 = some (r1, r2, r3)) :
  Calls Tryz.prog 134 #[.agg #[.string a0_0, .int .i64 a0_1]] w fun e w' => e = .returned (.tuple #[.int .i64 r1, .int .i64 r2, .int .i64 r3]) ∧ Below w.heap.size w w' := by
 have hu137 := Tryz.underlying137
 have HB := Aside0.mk (Below.refl w.heap.size w)
 have H : ((pack_GetInt.f a0_0 a0_1).bind fun bt221 => (some (bt221.1, bt221.2.1, bt221.2.2))) = some (r1, r2, r3) := h
 clear h
 replace H := Option.bind_eq_some_iff.mp H
 obtain ⟨⟨t221, t222, t223⟩, A20, H⟩ := H
 have A2 := Aside0.mk A20
 clear A20
 simp only [Option.some.injEq, Prod.mk.injEq] at H
 obtain ⟨rfl, rfl, rfl⟩ := H
 go_enter Tryz.func134, Tryz.ntmps134
 go_wp2_with (first | ((with_reducible refine gate_dst (N := 1) rfl ?_); refine bx (N := 1) (cs := #[.string a0_0, .int .i64 a0_1]) (t := 137) ?_; intro gb220 hg w3 hbox hb; have BK220 := am (hbox); have GW220 := am ((zz hg (zb HB))); have GE220 := am ((zz hg (zb HB))); replace HB := am (below_step (zb HB) hb); clear hb hbox hg; obtain ⟨hcz4_0, hcz4_1, hfz4_0, hfz4_1⟩ := cz2 BK220) | ((with_reducible refine gate_callee (f := 180) rfl ?_); refine gl (some 9) Tryz.func180 #[.string a0_0, .int .i64 a0_1] rfl ?_; (with_reducible refine (pack_GetInt.calls a0_0 a0_1 t221 t222 t223 _ A2.out).mono ?_); rintro e w5 ⟨rfl, hb⟩; refine ⟨_, rfl, ?_⟩; replace BK220 := am (blk_below (zk BK220) hb); replace HB := am (below_step (zb HB) hb); (try clear hb); (try clear hb2); (try clear hk); (try clear hi)))
 go_ret3
 exact ⟨ze, zb HB⟩
-- NOT PRINTED: function 88 (packet_reader_ints)
/-! ### packet_spot_uint: function 135 -/
def packet_spot_uint.f (a0_0 : ByteArray) (a0_1 : Int) : Option (Int × Int × Int) := (pack_GetUint.f a0_0 a0_1).bind fun bt225 => (some (bt225.1, bt225.2.1, bt225.2.2))
set_option maxHeartbeats 8000000 in
set_option maxRecDepth 100000 in
theorem packet_spot_uint.calls (a0_0 : ByteArray) (a0_1 : Int) (r1 : Int) (r2 : Int) (r3 : Int) (w : World) (h : packet_spot_uint.f a0_0 a0_1 = some (r1, r2, r3)) :
  Calls Tryz.prog 135 #[.agg #[.string a0_0, .int .i64 a0_1]] w fun e w' => e = .returned (.tuple #[.int .i64 r1, .int .i64 r2, .int .i64 r3]) ∧ Below w.heap.size w w' := by
 have hu137 := Tryz.underlying137
 have HB := Aside0.mk (Below.refl w.heap.size w)
 have H : ((pack_GetUint.f a0_0 a0_1).bind fun bt225 => (some (bt225.1, bt225.2.1, bt225.2.2))) = some (r1, r2, r3) := h
 clear h
 replace H := Option.bind_eq_some_iff.mp H
 obtain ⟨⟨t225, t226, t227⟩, A20, H⟩ := H
 have A2 := Aside0.mk A20
 clear A20
 simp only [Option.some.injEq, Prod.mk.injEq] at H
 obtain ⟨rfl, rfl, rfl⟩ := H
 go_enter Tryz.func135, Tryz.ntmps135
 go_wp2_with (first | ((with_reducible refine gate_dst (N := 1) rfl ?_); refine bx (N := 1) (cs := #[.string a0_0, .int .i64 a0_1]) (t := 137) ?_; intro gb224 hg w3 hbox hb; have BK224 := am (hbox); have GW224 := am ((zz hg (zb HB))); have GE224 := am ((zz hg (zb HB))); replace HB := am (below_step (zb HB) hb); clear hb hbox hg; obtain ⟨hcz4_0, hcz4_1, hfz4_0, hfz4_1⟩ := cz2 BK224) | ((with_reducible refine gate_callee (f := 179) rfl ?_); refine gl (some 9) Tryz.func179 #[.string a0_0, .int .i64 a0_1] rfl ?_; (with_reducible refine (pack_GetUint.calls a0_0 a0_1 t225 t226 t227 _ A2.out).mono ?_); rintro e w5 ⟨rfl, hb⟩; refine ⟨_, rfl, ?_⟩; replace BK224 := am (blk_below (zk BK224) hb); replace HB := am (below_step (zb HB) hb); (try clear hb); (try clear hb2); (try clear hk); (try clear hi)))
 go_ret3
 exact ⟨ze, zb HB⟩
-- NOT PRINTED: function 89 (packet_reader_count)
-- NOT PRINTED: function 91 (packet_reader_list)
-- NOT PRINTED: function 92 (packet_reader_end)
/-! ### entrepotref21_PutUint: function 82 -/
def entrepotref21_PutUint.l0 : Nat → Int → List Int → Option (ByteArray)
 | 0, _, _ => none
 | k + 1, x0, x3 => if x0 ≥ 128 then (if x3.length < 140737488355328 then (entrepotref21_PutUint.l0 k (wrap64 (Int.tdiv x0 128)) (x3 ++ [(wrap64 ((Int.tmod x0 128) + 128)) % 256])) else (none)) else (if x3.length < 140737488355328 then (some (strOfNums (x3 ++ [(x0) % 256]))) else (none))
def entrepotref21_PutUint.f (k : Nat) (a0 : Int) : Option (ByteArray) := if a0 < 0 then (some (⟨#[]⟩ : ByteArray)) else (entrepotref21_PutUint.l0 k a0 (([] : List Int)))
/-! ### entrepotref21_PutText: function 80 -/
/-! ### entrepotref21_PutInt: function 122 -/
def entrepotref21_PutInt.j0 : Nat → Int → Bool → Option (ByteArray)
 | 0, _, _ => none
 | k + 1, x0, x8 => if x8 = true then (some (⟨#[]⟩ : ByteArray)) else (if x0 < 0 then ((entrepotref21_PutUint.f k (wrap64 ((-1) - (wrap64 (2 * x0))))).bind fun t243 => (some t243)) else ((entrepotref21_PutUint.f k (wrap64 (2 * x0))).bind fun t244 => (some t244)))
def entrepotref21_PutInt.f (k : Nat) (a0 : Int) : Option (ByteArray) := if a0 < (-2305843009213693952) then (entrepotref21_PutInt.j0 k a0 true) else (entrepotref21_PutInt.j0 k a0 (decide (a0 > 2305843009213693951)))
/-! ### entrepotref22_ints: function 81 -/
def entrepotref22_ints.l0 : Nat → List Int → ByteArray → Int → Option (ByteArray)
 | 0, _, _, _ => none
 | k + 1, x0, x3, x4 => if x4 < (x0.length : Int) then (if 0 ≤ x4 then ((entrepotref21_PutInt.f k (rd x0 x4)).bind fun t246 => (if x3.size + t246.size ≤ 9223372036854775807 then (entrepotref22_ints.l0 k x0 (x3 ++ t246) (wrap64 (x4 + 1))) else (none))) else (none)) else (some x3)
end Go.Proofs.YtofklpphalalhaaGreatDoor.PAll
end
section
namespace Go.Proofs.YtofklpphalalhaaGreatDoor.Evs
open Go.RowKit Go.Proofs.YtofklpphalalhaaGreatDoor.PAll Go.Proofs.YtofklpphalalhaaGreatDoorW.PrintWords Go.Proofs.YtofklpphalalhaaGreatDoorW.PrintLast
/-! Texts and lists of bytes. -/
def S (l : List UInt8) : ByteArray := ⟨l.toArray⟩
theorem S_data (l : List UInt8) : (S l).data.toList = l := by simp [S]
theorem S_of (s : ByteArray) : S s.data.toList = s := by simp [S]
theorem S_size (l : List UInt8) : (S l).size = l.length := by simp [S, ByteArray.size]
theorem S_toList (l : List UInt8) : (S l).toList = l := by rw [ByteArray.toList_eq, S_data]
theorem S_ext {a b : ByteArray} (h : a.data.toList = b.data.toList) : a = b := by rw [← S_of a, ← S_of b, h]
theorem S_append (a b : List UInt8) : S a ++ S b = S (a ++ b) := S_ext (by rw [S_data, ByteArray.data_append]; simp [S])
theorem S_extract (l : List UInt8) (a b : Nat) : (S l).extract a b = S ((l.drop a).take (b - a)) := S_ext (by
 rw [S_data, ByteArray.data_extract, Array.toList_extract]; simp [S, List.extract])
theorem size_len (s : ByteArray) : s.data.toList.length = s.size := rfl
def nats (l : List UInt8) : List Int := l.map fun b => (b.toNat : Int)
theorem str_nats (l : List UInt8) : strOfNums (nats l) = S l := by
 unfold strOfNums nats S
 rw [List.map_map]
 congr 2
 refine (List.map_congr_left fun b _ => ?_).trans (List.map_id _)
 simp
theorem nats_append (a b : List UInt8) : nats (a ++ b) = nats a ++ nats b := List.map_append
theorem nats_cons (n : Nat) (h : n < 256) (l : List UInt8) : nats (UInt8.ofNat n :: l) = (n : Int) :: nats l := by
 simp only [nats, List.map_cons, Pk.toNat_ofNat h]
theorem nats_len (l : List UInt8) : (nats l).length = l.length := List.length_map _
theorem bt_get (s : ByteArray) (n : Nat) : bt s (n : Int) = ((s.data.toList.getD n 0).toNat : Int) := by
 rw [← rd_bytesOf]; unfold rd bytesOf
 rw [Int.toNat_natCast, List.getD_eq_getElem?_getD, List.getD_eq_getElem?_getD, List.getElem?_map]
 cases s.data.toList[n]? <;> simp
theorem or128 : ∀ a, a < 256 → a ||| 128 = a % 128 + 128 := by decide +kernel
theorem or128_int (x : Nat) : Go.bits .or .u8 ((x : Int) % 256) 128 = ((x % 128 + 128 : Nat) : Int) := by
 rw [show (x : Int) % 256 = ((x % 256 : Nat) : Int) by omega]
 have := (bits_nat .u8 8 (by decide) wraps_u8 (x % 256) 128 (by omega) (by decide)).2
 refine this.trans ?_
 rw [or128 _ (by omega)]; omega
/-! Numbers as bytes. -/
theorem putUint_l (n : Nat) : ∀ xs : List UInt8, xs.length + (Pk.putU n).length ≤ 140737488355328 →
    Ev (fun k => pack_PutUint.l0 k (n : Int) (nats xs)) (S (xs ++ Pk.putU n)) := by
  induction n using Nat.strongRecOn with
  | _ n ih =>
    intro xs h
    by_cases hn : n < 128
    · rw [Pk.putU_lt hn] at h ⊢
      refine ⟨1, fun k hk => ?_⟩
      obtain ⟨m, rfl⟩ : ∃ m, k = m + 1 := ⟨k - 1, by omega⟩
      simp only [pack_PutUint.l0]
      rw [if_neg (by omega), nats_len, if_pos (by simp at h; omega)]
      rw [← str_nats, nats_append, nats_cons n (by omega), show (n : Int) % 256 = n by omega]; rfl
    · rw [Pk.putU_ge hn] at h ⊢
      simp only [List.length_cons] at h
      have := ih (n / 128) (by omega) (xs ++ [UInt8.ofNat (n % 128 + 128)]) (by simp; omega)
      rw [show xs ++ UInt8.ofNat (n % 128 + 128) :: Pk.putU (n / 128) = xs ++ [UInt8.ofNat (n % 128 + 128)] ++ Pk.putU (n / 128) by simp]
      refine Ev.step (fun k => ?_) this
      simp only [pack_PutUint.l0]
      rw [if_pos (by omega), nats_len, if_pos (by omega), or128_int, nats_append, nats_cons _ (by omega), show (n : Int) / 128 = ((n / 128 : Nat) : Int) by omega]; rfl
theorem putU_len9 (n : Nat) (h : n < 9223372036854775808) : (Pk.putU n).length ≤ 9 := Pk.putU_len 8 n (by rw [Pk.pow9]; exact h)
theorem putUint (n : Int) (h : n < 9223372036854775808) : Ev (fun k => pack_PutUint.f k n) (S (Pk.putUI n)) := by
 unfold Pk.putUI
 by_cases hn : n < 0
 ·rw [if_pos hn]
  exact ⟨0, fun k _ => by show pack_PutUint.f k n = _; unfold pack_PutUint.f; rw [if_pos hn]; rfl⟩
 ·rw [if_neg hn]
  obtain ⟨m, rfl⟩ := Int.eq_ofNat_of_zero_le (show 0 ≤ n by omega)
  rw [Int.toNat_natCast]
  have h9 := putU_len9 m (by omega)
  have := putUint_l m [] (by simp; omega)
  refine Ev.congr (fun k => ?_) this
  unfold pack_PutUint.f
  rw [if_neg hn]; rfl
/-! With a sign. -/
theorem ofInt_nat (x : Int) : ((BitVec.ofInt 64 x).toNat : Int) = x % 18446744073709551616 := by
 rw [BitVec.toNat_ofInt]
 simp only [Nat.reducePow]
 omega
theorem xor_m1 (x : Int) (h : -9223372036854775808 ≤ x ∧ x < 9223372036854775808) : Go.bits .xor .i64 x (-1) = -x - 1 := by
 show IntKind.i64.wrap ((BitVec.ofInt 64 x ^^^ BitVec.ofInt 64 (-1)).toNat : Int) = _
 have e : BitVec.ofInt 64 (-1) = BitVec.allOnes 64 := by decide +kernel
 have hx := ofInt_nat x
 rw [e, BitVec.xor_allOnes, BitVec.toNat_not, IntKind.wrap_i64]
 generalize (BitVec.ofInt 64 x).toNat = y at *
 simp only [Nat.reducePow]
 omega
theorem xor_0 (x : Int) (h : -9223372036854775808 ≤ x ∧ x < 9223372036854775808) : Go.bits .xor .i64 x 0 = x := by
 show IntKind.i64.wrap ((BitVec.ofInt 64 x ^^^ BitVec.ofInt 64 0).toNat : Int) = _
 have hx := ofInt_nat x
 rw [show BitVec.ofInt 64 0 = 0#64 by decide +kernel, BitVec.xor_zero, IntKind.wrap_i64]
 omega
theorem and1_i64 (x : Nat) (h : x < 9223372036854775808) : Go.bits .and .i64 (x : Int) 1 = ((x % 2 : Nat) : Int) := by
 have := bits_mask .i64 63 (by decide) wraps_i64 1 (by decide) (x : Int) (by omega) (by rw [show (2 : Int) ^ 63 = 9223372036854775808 by decide +kernel]; omega)
 simpa using this
theorem putUI_of (n : Nat) : Pk.putUI (n : Int) = Pk.putU n := by unfold Pk.putUI; rw [if_neg (by omega), Int.toNat_natCast]
theorem zig_lt (n : Int) (h1 : -2305843009213693952 ≤ n) (h2 : n ≤ 2305843009213693951) : Pk.zig n < 4611686018427387904 := by unfold Pk.zig; split <;> omega
theorem putInt (n : Int) : Ev (fun k => pack_PutInt.f k n) (S (Pk.putI n)) := by
 unfold Pk.putI
 by_cases h1 : n > 2305843009213693951
 ·rw [if_pos (by omega)]
  exact ⟨0, fun k _ => by show pack_PutInt.f k n = _; unfold pack_PutInt.f; rw [if_pos h1]; rfl⟩
 ·by_cases h2 : n < -2305843009213693952
  ·rw [if_pos (by omega)]
   exact ⟨0, fun k _ => by show pack_PutInt.f k n = _; unfold pack_PutInt.f; rw [if_neg h1, if_pos h2]; rfl⟩
  ·rw [if_neg (by omega)]
   have hz := zig_lt n (by omega) (by omega)
   have := putUint (Pk.zig n : Int) (by omega)
   rw [putUI_of] at this
   refine Ev.congr (fun k => ?_) this
   show pack_PutInt.f k n = pack_PutUint.f k (Pk.zig n : Int)
   unfold pack_PutInt.f
   rw [if_neg h1, if_neg h2]
   have e : Go.bits .xor .i64 (wrap64 (n * 2)) (n / 9223372036854775808) = (Pk.zig n : Int) := by
    have e2 : wrap64 (n * 2) = n * 2 := by unfold wrap64; omega
    rw [e2]
    by_cases h3 : n < 0
    ·rw [show n / 9223372036854775808 = -1 by omega, xor_m1 _ (by omega)]
     unfold Pk.zig; rw [if_pos h3]; omega
    ·rw [show n / 9223372036854775808 = 0 by omega, xor_0 _ (by omega)]
     unfold Pk.zig; rw [if_neg h3]; omega
   rw [e]
   cases pack_PutUint.f k (Pk.zig n : Int) <;> rfl
/-! The number at a place. -/
theorem gA_lt (l : List UInt8) (n : Nat) (j : Nat) : ∀ i acc, i + j = 9 → acc < 128 ^ i → (Pk.gA l n i acc).1 < 9223372036854775808 ∧ (Pk.gA l n i acc).2.1 ≤ n + 9 ∧ ((Pk.gA l n i acc).2.2 ≠ 0 → (Pk.gA l n i acc).1 = 0 ∧ (Pk.gA l n i acc).2.1 = 0) ∧ ((Pk.gA l n i acc).2.1 ≤ l.length) := by
  induction j with
  | zero => intro i acc hi _; rw [Pk.gA, if_pos (by omega)]; simp
  | succ j ih =>
    intro i acc hi ha
    by_cases hl : n + i < l.length
    · rw [gA_step l n i acc _ rfl hl (by omega)]
      have hc := acc_step acc i ((l.getD (n + i) 0).toNat : Int) ha
      have hm : 128 ^ (i + 1) ≤ 128 ^ 9 := Nat.pow_le_pow_right (by decide) (by omega)
      rw [show (128 : Nat) ^ 9 = 9223372036854775808 from Pk.pow9] at hm
      split
      · exact ih (i + 1) _ (by omega) hc
      · split
        · simp
        · exact ⟨by show _ + _ < _; omega, by show n + i + 1 ≤ n + 9; omega, fun h => absurd rfl h, by show n + i + 1 ≤ l.length; omega⟩
    · rw [Pk.gA, if_neg (by omega), List.getElem?_eq_none (by omega)]; simp
theorem getU_lt (l : List UInt8) (n : Int) : (Pk.getU l n).1 < 9223372036854775808 ∧ (Pk.getU l n).2.1 ≤ n.toNat + 9 ∧ ((Pk.getU l n).2.2 ≠ 0 → (Pk.getU l n).1 = 0 ∧ (Pk.getU l n).2.1 = 0) ∧ (Pk.getU l n).2.1 ≤ l.length := by
 unfold Pk.getU
 split
 ·simp
 ·exact gA_lt l n.toNat 9 0 0 (by omega) (by decide)
def t3 (x : Nat × Nat × Nat) : Int × Int × Int := ((x.1 : Int), (x.2.1 : Int), (x.2.2 : Int))
theorem getUint (s : ByteArray) (n : Int) (hs : s.size ≤ 140737488351232) : pack_GetUint.f s n = some (t3 (Pk.getU s.data.toList n)) := by
 unfold pack_GetUint.f; rw [if_pos hs]; rfl
theorem w64 (n : Int) (h0 : -9223372036854775808 ≤ n) (h1 : n ≤ 9223372036854775807) : wrap64 n = n := IntWalk.wrap64_in n ⟨h0, h1⟩
def t3i (x : Int × Nat × Nat) : Int × Int × Int := (x.1, (x.2.1 : Int), (x.2.2 : Int))
theorem getInt (s : ByteArray) (n : Int) (hs : s.size ≤ 140737488351232) : pack_GetInt.f s n = some (t3i (Pk.getI s.data.toList n)) := by
 unfold pack_GetInt.f
 rw [getUint s n hs, Option.bind_some]
 have hx := (getU_lt s.data.toList n).1
 show some (Go.bits .xor .i64 (((Pk.getU s.data.toList n).1 : Int) / 2) (wrap64 (-(Go.bits .and .i64 ((Pk.getU s.data.toList n).1 : Int) 1))), _, _) = some (Pk.zag (Pk.getU s.data.toList n).1, _, _)
 generalize (Pk.getU s.data.toList n).1 = x at *
 have e : Go.bits .xor .i64 ((x : Int) / 2) (wrap64 (-(Go.bits .and .i64 (x : Int) 1))) = Pk.zag x := by
  rw [and1_i64 x (by omega)]
  unfold Pk.zag
  by_cases h : x % 2 = 1
  ·rw [if_pos h, h, w64 _ (by omega) (by omega), show (-((1 : Nat) : Int)) = -1 by rfl, xor_m1 _ (by omega)]; omega
  ·rw [if_neg h, show x % 2 = 0 by omega, w64 _ (by omega) (by omega), show (-((0 : Nat) : Int)) = 0 by rfl, xor_0 _ (by omega)]; omega
 rw [e]; rfl
def t3t (x : List UInt8 × Nat × Nat) : ByteArray × Int × Int := (S x.1, (x.2.1 : Int), (x.2.2 : Int))
theorem ext_S (s : ByteArray) (a b : Nat) : s.extract a b = S ((s.data.toList.drop a).take (b - a)) := by rw [← S_extract, S_of]
theorem getText (s : ByteArray) (n : Int) (hs : s.size ≤ 140737488351232) : pack_GetText.f s n = some (t3t (Pk.getT s.data.toList n)) := by
 unfold pack_GetText.f
 rw [getUint s n hs, Option.bind_some]
 have hx := getU_lt s.data.toList n
 rw [size_len] at hx
 unfold Pk.getT
 have e1 : (t3 (Pk.getU s.data.toList n)).1 = ((Pk.getU s.data.toList n).1 : Int) := rfl
 have e2 : (t3 (Pk.getU s.data.toList n)).2.1 = ((Pk.getU s.data.toList n).2.1 : Int) := rfl
 have e3 : (t3 (Pk.getU s.data.toList n)).2.2 = ((Pk.getU s.data.toList n).2.2 : Int) := rfl
 rw [e1, e2, e3, size_len]
 generalize (Pk.getU s.data.toList n).1 = x at *
 generalize (Pk.getU s.data.toList n).2.1 = y at *
 generalize (Pk.getU s.data.toList n).2.2 = z at *
 by_cases h : z = 0
 ·have w1 : wrap64 ((s.size : Int) - (y : Int)) = (s.size : Int) - (y : Int) := w64 _ (by omega) (by omega)
  rw [w1, if_pos (show (z : Int) = 0 by omega), if_neg (show ¬ z ≠ 0 by omega)]
  by_cases h2 : s.size < y + x
  ·rw [if_pos (show (s.size : Int) - (y : Int) < (x : Int) by omega), if_pos h2]; rfl
  ·have w2 : wrap64 ((y : Int) + (x : Int)) = (y : Int) + (x : Int) := w64 _ (by omega) (by omega)
   rw [if_neg (show ¬ (s.size : Int) - (y : Int) < (x : Int) by omega), if_neg h2, w2, if_pos (show (0 : Int) ≤ (y : Int) by omega), if_pos (show (y : Int) ≤ (y : Int) + (x : Int) by omega), if_pos (show (y : Int) + (x : Int) ≤ (s.size : Int) by omega)]
   rw [show ((y : Int) + (x : Int)).toNat = y + x by omega, Int.toNat_natCast, ext_S, show y + x - y = x by omega]; rfl
 ·rw [if_neg (show ¬ (z : Int) = 0 by omega), if_pos h]; rfl
theorem putText_of {g : Nat → Option ByteArray} (s : ByteArray) (hs : s.size ≤ 140737488351232) (h : Ev g (S (Pk.putUI (s.size : Int)))) :
  Ev (fun k => (g k).bind fun t => if t.size + s.size ≤ 9223372036854775807 then some (t ++ s) else none) (S (Pk.putT s.data.toList)) := by
 refine Ev.bind h ⟨0, fun k _ => ?_⟩
 rw [putUI_of, S_size]
 have := putU_len9 s.size (by omega)
 rw [if_pos (by omega), ← S_of s, S_append, S_of, Pk.putT, size_len]
theorem putText (s : ByteArray) (hs : s.size ≤ 140737488351232) : Ev (fun k => pack_PutText.f k s) (S (Pk.putT s.data.toList)) :=
 putText_of s hs (putUint _ (by omega))
/-! The sum. -/
theorem sum_ (s : ByteArray) (hs : s.size ≤ 140737488351232) : pack_Sum.f s = some ((Pk.sum s.data.toList : Nat) : Int) := by
 unfold pack_Sum.f; rw [if_pos hs]
def crcN : Nat → Nat → Nat
 | 0, r => r
 | n + 1, r => crcN n (Pk.crc1 r)
theorem refSum_bits (s : ByteArray) (i : Int) (res : Int) (j : Nat) : ∀ (b r : Nat), b + j = 8 → r < 4294967296 → Ev (fun k => entrepotref21_Sum.l0 k s (crcN j r : Nat) (wrap64 (i + 1))) res →
    Ev (fun k => entrepotref21_Sum.l1 k s (r : Int) i (b : Int)) res := by
  induction j with
  | zero =>
    intro b r hb hr h
    refine Ev.step (fun k => ?_) h
    simp only [entrepotref21_Sum.l1]
    rw [if_neg (by omega)]; rfl
  | succ j ih =>
    intro b r hb hr h
    refine Ev.step (fun k => ?_) (ih (b + 1) (Pk.crc1 r) (by omega) (Pk.crc1_lt hr) h)
    simp only [entrepotref21_Sum.l1]
    rw [if_pos (by omega), Int.tmod_eq_emod_of_nonneg (by omega), Int.tdiv_eq_ediv_of_nonneg (by omega), w64 _ (by omega) (by omega)]
    have e : (r : Int) / 2 % 4294967296 = ((r / 2 : Nat) : Int) := by omega
    rw [e]
    unfold Pk.crc1
    by_cases h2 : r % 2 = 1
    · rw [if_pos (by omega), if_pos h2]
      have := xor_u32 (r / 2) 3988292384 (by omega) (by decide)
      rw [← this]; rfl
    · rw [if_neg (by omega), if_neg h2]; rfl
theorem crcN_8 (r : Nat) : crcN 8 r = Pk.crc4 (Pk.crc4 r) := rfl
theorem refSum_l (s : ByteArray) (hs : s.size ≤ 140737488351232) (j : Nat) : ∀ (i r : Nat), i + j = s.size → r < 4294967296 → Pk.run 4294967295 (s.data.toList.take i) = r →
    Ev (fun k => entrepotref21_Sum.l0 k s (r : Int) (i : Int)) ((Pk.sum s.data.toList : Nat) : Int) := by
  induction j with
  | zero =>
    intro i r hi hr h
    refine ⟨1, fun k hk => ?_⟩
    obtain ⟨m, rfl⟩ : ∃ m, k = m + 1 := ⟨k - 1, by omega⟩
    simp only [entrepotref21_Sum.l0]
    rw [if_neg (by omega)]
    rw [List.take_of_length_le (by rw [size_len]; omega)] at h
    unfold Pk.sum; rw [h]
    congr 1; omega
  | succ j ih =>
    intro i r hi hr h
    have hb := bt_get s i
    have hc := (s.data.toList.getD i 0).toNat_lt
    have hx : r ^^^ (s.data.toList.getD i 0).toNat < 4294967296 := Pk.xor_byte_lt hr _
    have hrun : Pk.run 4294967295 (s.data.toList.take (i + 1)) = Pk.crcB r (s.data.toList.getD i 0).toNat := by
      rw [List.take_succ_eq_append_getElem (by rw [size_len]; omega)]
      unfold Pk.run at h ⊢
      rw [List.foldl_append, h, List.getD_eq_getElem?_getD, List.getElem?_eq_getElem (by rw [size_len]; omega)]; rfl
    have := ih (i + 1) (Pk.crcB r (s.data.toList.getD i 0).toNat) (by omega) (Pk.crcB_lt hr _) hrun
    refine Ev.step (fun k => ?_) (refSum_bits s (i : Int) _ 8 0 (r ^^^ (s.data.toList.getD i 0).toNat) (by omega) hx (by rw [crcN_8, w64 _ (by omega) (by omega)]; exact this))
    simp only [entrepotref21_Sum.l0]
    rw [if_pos (by omega), if_pos (by omega), hb, show ((s.data.toList.getD i 0).toNat : Int) % 4294967296 = ((s.data.toList.getD i 0).toNat : Int) by omega, xor_u32 r _ hr (by omega)]; rfl
theorem refSum (s : ByteArray) (hs : s.size ≤ 140737488351232) : Ev (fun k => entrepotref21_Sum.f k s) ((Pk.sum s.data.toList : Nat) : Int) :=
 refSum_l s hs s.size 0 4294967295 (by omega) (by omega) rfl
/-! What is sealed, and opened. -/
theorem le4_nats (n : Nat) : nats (Pk.le4 n) = [((n % 256 : Nat) : Int), ((n / 256 % 256 : Nat) : Int), ((n / 65536 % 256 : Nat) : Int), ((n / 16777216 % 256 : Nat) : Int)] := by
 unfold Pk.le4
 rw [nats_cons _ (by omega), nats_cons _ (by omega), nats_cons _ (by omega), nats_cons _ (by omega)]; rfl
theorem sealed (s : ByteArray) (hs : s.size ≤ 140737488351232) : pack_Seal.f s = some (S (Pk.shut s.data.toList)) := by
 unfold pack_Seal.f
 rw [sum_ s hs, Option.bind_some, Option.bind_some]
 have e : ([((Pk.sum s.data.toList : Nat) : Int) % 256, ((Pk.sum s.data.toList : Nat) : Int) / 256 % 256, ((Pk.sum s.data.toList : Nat) : Int) / 65536 % 256, ((Pk.sum s.data.toList : Nat) : Int) / 16777216 % 256] : List Int) = nats (Pk.le4 (Pk.sum s.data.toList)) := by
  rw [le4_nats]; simp
 rw [e, str_nats, S_size]
 rw [if_pos (by simp [Pk.le4]; omega), ← S_of s, S_append, S_of]; rfl
theorem refSeal_l (s : ByteArray) (hs : s.size ≤ 140737488351232) (n : Nat) (hn : n < 4294967296) : Ev (fun k => entrepotref21_Seal.l0 k s (n : Int) ([] : List Int) 0) (S (s.data.toList ++ Pk.le4 n)) := by
 refine ⟨5, fun k hk => ?_⟩
 obtain ⟨m, rfl⟩ : ∃ m, k = m + 5 := ⟨k - 5, by omega⟩
 have d : ∀ x : Nat, x < 4294967296 → Int.tdiv (x : Int) 256 % 4294967296 = ((x / 256 : Nat) : Int) := fun x h => by
  rw [Int.tdiv_eq_ediv_of_nonneg (by omega)]; omega
 have r : ∀ x : Nat, Int.tmod (x : Int) 256 % 256 = ((x % 256 : Nat) : Int) := fun x => by
  rw [Int.tmod_eq_emod_of_nonneg (by omega)]; omega
 have w0 : wrap64 ((0 : Int) + 1) = 1 := w64 _ (by omega) (by omega)
 have w1 : wrap64 ((1 : Int) + 1) = 2 := w64 _ (by omega) (by omega)
 have w2 : wrap64 ((2 : Int) + 1) = 3 := w64 _ (by omega) (by omega)
 have w3 : wrap64 ((3 : Int) + 1) = 4 := w64 _ (by omega) (by omega)
 simp only [entrepotref21_Seal.l0]
 rw [if_pos (by decide), if_pos (by simp), r, d n hn, w0, if_pos (by decide), if_pos (by simp), r, d _ (by omega), w1, if_pos (by decide), if_pos (by simp), r, d _ (by omega), w2, if_pos (by decide), if_pos (by simp), r, d _ (by omega), w3, if_neg (by decide)]
 have e : ([] ++ [((n % 256 : Nat) : Int)] ++ [((n / 256 % 256 : Nat) : Int)] ++ [((n / 256 / 256 % 256 : Nat) : Int)] ++ [((n / 256 / 256 / 256 % 256 : Nat) : Int)]) = nats (Pk.le4 n) := by
  rw [le4_nats, show n / 256 / 256 = n / 65536 by omega, show n / 65536 / 256 = n / 16777216 by omega]; rfl
 rw [e, str_nats, S_size, if_pos (by simp [Pk.le4]; omega), ← S_of s, S_append, S_of]
theorem refSealed (s : ByteArray) (hs : s.size ≤ 140737488351232) : Ev (fun k => entrepotref21_Seal.f k s) (S (Pk.shut s.data.toList)) :=
 Ev.bind (refSum s hs) (refSeal_l s hs _ (Pk.sum_lt _))
def t2t (x : List UInt8 × Nat) : ByteArray × Int := (S x.1, (x.2 : Int))
theorem take_ext (s : ByteArray) : s.extract 0 (s.size - 4) = S (s.data.toList.take (s.size - 4)) := by rw [ext_S]; simp
theorem opened (s : ByteArray) (hs : s.size ≤ 140737488351232) : pack_Open.f s = some (t2t (Pk.opn s.data.toList)) := by
 unfold pack_Open.f Pk.opn
 rw [w64 _ (by omega) (by omega), size_len]
 by_cases h : s.size < 4
 ·rw [if_pos (by omega), if_pos h]; rfl
 ·rw [if_neg (by omega), if_neg h, if_pos (by omega), if_pos (by omega), show ((s.size : Int) - 4).toNat = s.size - 4 by omega, take_ext s]
  rw [sealed _ (by rw [S_size, List.length_take]; omega), Option.bind_some, S_data, S_toList, ByteArray.toList_eq]
  by_cases e : Pk.shut (s.data.toList.take (s.size - 4)) = s.data.toList
  ·rw [if_pos e, if_neg (by simpa using e)]; rfl
  ·rw [if_neg e, if_pos e]; rfl
/-! The small case that must go well. -/
end Go.Proofs.YtofklpphalalhaaGreatDoor.Evs
end
