/- Contracts of package decode: forms, and their fields. -/
import Derived.Test.YtpdemjdjgehpgaaProg
import Derived.Test.YtpdemjdjgehpgaaDc
import Derived.Test.YtpdemjdjgehpgaaBits
import Derived.WalkKit
import Derived.WalkSpells
import Derived.WalkLawsBesides
import Derived.Lib.Hide
import Derived.Lib.Walk
import Derived.Lib.Bytealg
namespace Go.Proofs.Ytpdemjdjgehpgaa
open Go.RowKit Dc
set_option linter.unusedVariables false
namespace Dec

/-- A form's registers as a string. -/
def fstr (d r1 r2 : Bool) : ByteArray := ⟨(((if d then [100] else []) ++ (if r1 then [49] else []) ++ (if r2 then [50] else []) : List UInt8)).toArray⟩
def fv (f : Frm) (a : Option Addr) (n cap : Nat) : Value := .agg #[.int .u32 f.mask, .string (fstr f.d f.r1 f.r2), .int .i64 f.sg, .slice a n cap]
/-- Pieces in memory. -/
structure Ps (w : World) (a : Option Addr) (n : Nat) (l : List (Int × Int × Int)) : Prop where
  len : l.length = n
  is : (a = none ∧ n = 0) ∨ ∃ b, a = some ⟨b, 0, none⟩ ∧ ∀ i, i < n → w.cell? ⟨b, i * 3, none⟩ = some (.int .i64 (l.getD i (0, 0, 0)).1) ∧ w.cell? ⟨b, i * 3 + 1, none⟩ = some (.int .i64 (l.getD i (0, 0, 0)).2.1) ∧ w.cell? ⟨b, i * 3 + 2, none⟩ = some (.int .i64 (l.getD i (0, 0, 0)).2.2)
theorem below_cell {w w' : World} {p : Addr} {v : Value} (hb : Below w.heap.size w w') (h : w.cell? p = some v) : w'.cell? p = some v := (hb.cell (World.block_lt_of_cell? w p h)).trans h
theorem Ps.below {w w' : World} {a : Option Addr} {n : Nat} {l : List (Int × Int × Int)} (h : Ps w a n l) (hb : Below w.heap.size w w') : Ps w' a n l := by
  refine ⟨h.len, h.is.elim .inl fun ⟨b, e, hc⟩ => .inr ⟨b, e, fun i hi => ?_⟩⟩
  obtain ⟨c0, c1, c2⟩ := hc i hi
  exact ⟨below_cell hb c0, below_cell hb c1, below_cell hb c2⟩
def flat3 : List (Int × Int × Int) → List Value
  | [] => []
  | p :: l => .int .i64 p.1 :: .int .i64 p.2.1 :: .int .i64 p.2.2 :: flat3 l
theorem flat3_get : ∀ (l : List (Int × Int × Int)) (i : Nat), i < l.length → (flat3 l)[i * 3]? = some (.int .i64 (l.getD i (0, 0, 0)).1) ∧ (flat3 l)[i * 3 + 1]? = some (.int .i64 (l.getD i (0, 0, 0)).2.1) ∧ (flat3 l)[i * 3 + 2]? = some (.int .i64 (l.getD i (0, 0, 0)).2.2)
  | [], i, h => absurd h (by simp)
  | p :: l, 0, _ => ⟨rfl, rfl, rfl⟩
  | p :: l, i + 1, h => by
    have ih := flat3_get l i (by simpa using h)
    simp only [flat3]
    refine ⟨?_, ?_, ?_⟩
    · rw [show (i + 1) * 3 = i * 3 + 1 + 1 + 1 by omega]; simpa using ih.1
    · rw [show (i + 1) * 3 + 1 = (i * 3 + 1) + 1 + 1 + 1 by omega]; simpa using ih.2.1
    · rw [show (i + 1) * 3 + 2 = (i * 3 + 2) + 1 + 1 + 1 by omega]; simpa using ih.2.2
theorem ps_new {w : World} {g : Nat} (hg : w.heap.size = g) (l : List (Int × Int × Int)) (t : TypeId) : Ps (w.alloc (.cells (flat3 l).toArray t)) (some ⟨g, 0, none⟩) l.length l := by
  subst hg
  have h := heap_alloc_new w (.cells (flat3 l).toArray t)
  refine ⟨rfl, .inr ⟨_, rfl, fun i hi => ?_⟩⟩
  obtain ⟨e0, e1, e2⟩ := flat3_get l i hi
  simp only [World.cell?, h]
  exact ⟨by simpa using e0, by simpa using e1, by simpa using e2⟩
theorem Below.then {w0 w w' : World} (h : Below w0.heap.size w0 w) (hb : Below w.heap.size w w') : Below w0.heap.size w0 w' :=
  h.trans ⟨hb.os, hb.tape, hb.output, hb.size, fun b hl => hb.block b (Nat.lt_of_lt_of_le hl h.size)⟩
theorem below_al {w0 w : World} (h : Below w0.heap.size w0 w) (o : Obj) : Below w0.heap.size w0 (w.alloc o) := h.alloc h.size o
set_option maxHeartbeats 1000000 in
set_option maxRecDepth 100000 in
theorem shape_85 (w : World) : Calls Try.prog 19 #[.int .u8 85] w fun e w' => ∃ a n cap, e = .returned (fv (frm 85) a n cap) ∧ Ps w' a n (frm 85).ps ∧ Below w.heap.size w w' := by
  go_enter Try.func19, Try.ntmps19
  go_wp2
  refine bodyPost_ret (v := fv (frm 85) (some ⟨w.heap.size + 1, 0, none⟩) 1 1) ?_ rfl ?_
  · simp [results, Try.results19, go_sem, fv, fstr, frm]
  refine ⟨_, _, _, rfl, ?_, ?_⟩
  · exact ps_new (by simp) (frm 85).ps _
  · repeat (first | exact Below.refl _ _ | apply below_al)
set_option maxHeartbeats 1000000 in
set_option maxRecDepth 100000 in
theorem shape_74 (w : World) : Calls Try.prog 19 #[.int .u8 74] w fun e w' => ∃ a n cap, e = .returned (fv (frm 74) a n cap) ∧ Ps w' a n (frm 74).ps ∧ Below w.heap.size w w' := by
  go_enter Try.func19, Try.ntmps19
  go_wp2
  refine bodyPost_ret (v := fv (frm 74) (some ⟨w.heap.size + 1, 0, none⟩) 4 4) ?_ rfl ?_
  · simp [results, Try.results19, go_sem, fv, fstr, frm]
  refine ⟨_, _, _, rfl, ?_, ?_⟩
  · exact ps_new (by simp) (frm 74).ps _
  · repeat (first | exact Below.refl _ _ | apply below_al)
set_option maxHeartbeats 1000000 in
set_option maxRecDepth 100000 in
theorem shape_73 (w : World) : Calls Try.prog 19 #[.int .u8 73] w fun e w' => ∃ a n cap, e = .returned (fv (frm 73) a n cap) ∧ Ps w' a n (frm 73).ps ∧ Below w.heap.size w w' := by
  go_enter Try.func19, Try.ntmps19
  go_wp2
  refine bodyPost_ret (v := fv (frm 73) (some ⟨w.heap.size + 1, 0, none⟩) 1 1) ?_ rfl ?_
  · simp [results, Try.results19, go_sem, fv, fstr, frm]
  refine ⟨_, _, _, rfl, ?_, ?_⟩
  · exact ps_new (by simp) (frm 73).ps _
  · repeat (first | exact Below.refl _ _ | apply below_al)
set_option maxHeartbeats 1000000 in
set_option maxRecDepth 100000 in
theorem shape_66 (w : World) : Calls Try.prog 19 #[.int .u8 66] w fun e w' => ∃ a n cap, e = .returned (fv (frm 66) a n cap) ∧ Ps w' a n (frm 66).ps ∧ Below w.heap.size w w' := by
  go_enter Try.func19, Try.ntmps19
  go_wp2
  refine bodyPost_ret (v := fv (frm 66) (some ⟨w.heap.size + 1, 0, none⟩) 4 4) ?_ rfl ?_
  · simp [results, Try.results19, go_sem, fv, fstr, frm]
  refine ⟨_, _, _, rfl, ?_, ?_⟩
  · exact ps_new (by simp) (frm 66).ps _
  · repeat (first | exact Below.refl _ _ | apply below_al)
set_option maxHeartbeats 1000000 in
set_option maxRecDepth 100000 in
theorem shape_83 (w : World) : Calls Try.prog 19 #[.int .u8 83] w fun e w' => ∃ a n cap, e = .returned (fv (frm 83) a n cap) ∧ Ps w' a n (frm 83).ps ∧ Below w.heap.size w w' := by
  go_enter Try.func19, Try.ntmps19
  go_wp2
  refine bodyPost_ret (v := fv (frm 83) (some ⟨w.heap.size + 1, 0, none⟩) 2 2) ?_ rfl ?_
  · simp [results, Try.results19, go_sem, fv, fstr, frm]
  refine ⟨_, _, _, rfl, ?_, ?_⟩
  · exact ps_new (by simp) (frm 83).ps _
  · repeat (first | exact Below.refl _ _ | apply below_al)
set_option maxHeartbeats 1000000 in
set_option maxRecDepth 100000 in
theorem shape_82 (w : World) : Calls Try.prog 19 #[.int .u8 82] w fun e w' => ∃ a n cap, e = .returned (fv (frm 82) a n cap) ∧ Ps w' a n (frm 82).ps ∧ Below w.heap.size w w' := by
  go_enter Try.func19, Try.ntmps19
  go_wp2
  refine bodyPost_ret (v := fv (frm 82) none 0 0) ?_ rfl ?_
  · simp [results, Try.results19, go_sem, fv, fstr, frm]
  refine ⟨_, _, _, rfl, ?_, ?_⟩
  · exact ⟨rfl, .inl ⟨rfl, rfl⟩⟩
  · repeat (first | exact Below.refl _ _ | apply below_al)
set_option maxHeartbeats 1000000 in
set_option maxRecDepth 100000 in
theorem shape_72 (w : World) : Calls Try.prog 19 #[.int .u8 72] w fun e w' => ∃ a n cap, e = .returned (fv (frm 72) a n cap) ∧ Ps w' a n (frm 72).ps ∧ Below w.heap.size w w' := by
  go_enter Try.func19, Try.ntmps19
  go_wp2
  refine bodyPost_ret (v := fv (frm 72) (some ⟨w.heap.size + 1, 0, none⟩) 1 1) ?_ rfl ?_
  · simp [results, Try.results19, go_sem, fv, fstr, frm]
  refine ⟨_, _, _, rfl, ?_, ?_⟩
  · exact ps_new (by simp) (frm 72).ps _
  · repeat (first | exact Below.refl _ _ | apply below_al)
set_option maxHeartbeats 1000000 in
set_option maxRecDepth 100000 in
theorem shape_65 (w : World) : Calls Try.prog 19 #[.int .u8 65] w fun e w' => ∃ a n cap, e = .returned (fv (frm 65) a n cap) ∧ Ps w' a n (frm 65).ps ∧ Below w.heap.size w w' := by
  go_enter Try.func19, Try.ntmps19
  go_wp2
  refine bodyPost_ret (v := fv (frm 65) (some ⟨w.heap.size + 1, 0, none⟩) 1 1) ?_ rfl ?_
  · simp [results, Try.results19, go_sem, fv, fstr, frm]
  refine ⟨_, _, _, rfl, ?_, ?_⟩
  · exact ps_new (by simp) (frm 65).ps _
  · repeat (first | exact Below.refl _ _ | apply below_al)
set_option maxHeartbeats 1000000 in
set_option maxRecDepth 100000 in
theorem shape_76 (w : World) : Calls Try.prog 19 #[.int .u8 76] w fun e w' => ∃ a n cap, e = .returned (fv (frm 76) a n cap) ∧ Ps w' a n (frm 76).ps ∧ Below w.heap.size w w' := by
  go_enter Try.func19, Try.ntmps19
  go_wp2
  refine bodyPost_ret (v := fv (frm 76) (some ⟨w.heap.size + 1, 0, none⟩) 1 1) ?_ rfl ?_
  · simp [results, Try.results19, go_sem, fv, fstr, frm]
  refine ⟨_, _, _, rfl, ?_, ?_⟩
  · exact ps_new (by simp) (frm 76).ps _
  · repeat (first | exact Below.refl _ _ | apply below_al)
set_option maxHeartbeats 1000000 in
set_option maxRecDepth 100000 in
theorem shape_70 (w : World) : Calls Try.prog 19 #[.int .u8 70] w fun e w' => ∃ a n cap, e = .returned (fv (frm 70) a n cap) ∧ Ps w' a n (frm 70).ps ∧ Below w.heap.size w w' := by
  go_enter Try.func19, Try.ntmps19
  go_wp2
  refine bodyPost_ret (v := fv (frm 70) (some ⟨w.heap.size + 1, 0, none⟩) 1 1) ?_ rfl ?_
  · simp [results, Try.results19, go_sem, fv, fstr, frm]
  refine ⟨_, _, _, rfl, ?_, ?_⟩
  · exact ps_new (by simp) (frm 70).ps _
  · repeat (first | exact Below.refl _ _ | apply below_al)
set_option maxHeartbeats 1000000 in
set_option maxRecDepth 100000 in
theorem shape_69 (w : World) : Calls Try.prog 19 #[.int .u8 69] w fun e w' => ∃ a n cap, e = .returned (fv (frm 69) a n cap) ∧ Ps w' a n (frm 69).ps ∧ Below w.heap.size w w' := by
  go_enter Try.func19, Try.ntmps19
  go_wp2
  refine bodyPost_ret (v := fv (frm 69) none 0 0) ?_ rfl ?_
  · simp [results, Try.results19, go_sem, fv, fstr, frm]
  refine ⟨_, _, _, rfl, ?_, ?_⟩
  · exact ⟨rfl, .inl ⟨rfl, rfl⟩⟩
  · repeat (first | exact Below.refl _ _ | apply below_al)
set_option maxHeartbeats 1000000 in
set_option maxRecDepth 100000 in
theorem shape_86 (w : World) : Calls Try.prog 19 #[.int .u8 86] w fun e w' => ∃ a n cap, e = .returned (fv (frm 86) a n cap) ∧ Ps w' a n (frm 86).ps ∧ Below w.heap.size w w' := by
  go_enter Try.func19, Try.ntmps19
  go_wp2
  refine bodyPost_ret (v := fv (frm 86) none 0 0) ?_ rfl ?_
  · simp [results, Try.results19, go_sem, fv, fstr, frm]
  refine ⟨_, _, _, rfl, ?_, ?_⟩
  · exact ⟨rfl, .inl ⟨rfl, rfl⟩⟩
  · repeat (first | exact Below.refl _ _ | apply below_al)
set_option maxHeartbeats 1000000 in
set_option maxRecDepth 100000 in
theorem shape_67 (w : World) : Calls Try.prog 19 #[.int .u8 67] w fun e w' => ∃ a n cap, e = .returned (fv (frm 67) a n cap) ∧ Ps w' a n (frm 67).ps ∧ Below w.heap.size w w' := by
  go_enter Try.func19, Try.ntmps19
  go_wp2
  refine bodyPost_ret (v := fv (frm 67) (some ⟨w.heap.size + 1, 0, none⟩) 1 1) ?_ rfl ?_
  · simp [results, Try.results19, go_sem, fv, fstr, frm]
  refine ⟨_, _, _, rfl, ?_, ?_⟩
  · exact ps_new (by simp) (frm 67).ps _
  · repeat (first | exact Below.refl _ _ | apply below_al)
theorem shape_c (c : Nat) (hc : c ∈ letters) (w : World) : Calls Try.prog 19 #[.int .u8 c] w fun e w' => ∃ a n cap, e = .returned (fv (frm c) a n cap) ∧ Ps w' a n (frm c).ps ∧ Below w.heap.size w w' := by
  simp only [letters, List.mem_cons, List.not_mem_nil, or_false] at hc
  rcases hc with rfl | rfl | rfl | rfl | rfl | rfl | rfl | rfl | rfl | rfl | rfl | rfl | rfl
  · exact shape_85 w
  · exact shape_74 w
  · exact shape_73 w
  · exact shape_66 w
  · exact shape_83 w
  · exact shape_82 w
  · exact shape_72 w
  · exact shape_65 w
  · exact shape_76 w
  · exact shape_70 w
  · exact shape_69 w
  · exact shape_86 w
  · exact shape_67 w
theorem indexByte_c (s : ByteArray) (c : Int) (w : World) : Calls Try.prog 46 #[.string s, .int .u8 c] w fun e w' => e = .returned (.int .i64 (Lib.indexByte s.data.toList c.toNat.toUInt8)) ∧ w' = w := by
  go_enter Try.func46, Try.ntmps46
  go_wp2
  rw [run_callFunc_extern Try.func50 (by kernel_rfl) (by kernel_rfl) (by kernel_rfl) (e := Extern.BytealgIndexByte.indexByte) (by kernel_rfl), Lib.run_indexByteString]
  simp only [Result.andThen]
  rw [Oper.upon_value]
  go_wp2
  go_ret
  exact ⟨rfl, rfl⟩
theorem index_c (s : ByteArray) (c : UInt8) (w : World) : Calls Try.prog 45 #[.string s, .string ⟨#[c]⟩] w fun e w' => e = .returned (.int .i64 (Lib.indexByte s.data.toList c)) ∧ Below w.heap.size w w' := by
  go_enter Try.func45, Try.ntmps45
  go_wp2_with (go_at_call 46; refine (indexByte_c _ _ _).mono ?_; rintro e w' ⟨rfl, rfl⟩)
  · have h : ([c] == s.toList) = true := by assumption
    have h2 : s.data.toList = [c] := by rw [Lib.toList_data] at h; exact (eq_of_beq h).symm
    go_ret
    refine ⟨?_, Below.refl _ _⟩
    show Ending.returned (.int .i64 0) = _
    rw [h2]
    simp [Lib.indexByte]
  · go_ret
    exact ⟨rfl, Below.refl _ _⟩
theorem index2_c (s : ByteArray) (c : UInt8) (w : World) : Calls Try.prog 44 #[.string s, .string ⟨#[c]⟩] w fun e w' => e = .returned (.int .i64 (Lib.indexByte s.data.toList c)) ∧ Below w.heap.size w w' := by
  go_enter Try.func44, Try.ntmps44
  go_wp2_with (go_at_call 45; refine (index_c _ _ _).mono ?_; rintro e w' ⟨rfl, b1⟩)
  go_ret
  exact ⟨rfl, b1⟩
theorem contains_c (s : ByteArray) (c : UInt8) (q : Bool) (hq : decide (0 ≤ Lib.indexByte s.data.toList c) = q) (w : World) : Calls Try.prog 40 #[.string s, .string ⟨#[c]⟩] w fun e w' => e = .returned (.bool q) ∧ Below w.heap.size w w' := by
  subst hq
  go_enter Try.func40, Try.ntmps40
  go_wp2_with (go_at_call 44; refine (index2_c _ _ _).mono ?_; rintro e w' ⟨rfl, b1⟩)
  go_ret
  exact ⟨rfl, b1⟩
theorem has_q (f : Frm) (a : Option Addr) (n cap : Nat) (c : UInt8) (q : Bool) (hq : decide (0 ≤ Lib.indexByte (fstr f.d f.r1 f.r2).data.toList c) = q) (w : World) : Calls Try.prog 30 #[fv f a n cap, .string ⟨#[c]⟩] w fun e w' => e = .returned (.bool q) ∧ Below w.heap.size w w' := by
  have H := fun W => contains_c _ c q hq W
  unfold fv
  generalize fstr f.d f.r1 f.r2 = z at *
  go_enter Try.func30, Try.ntmps30
  go_wp2_with (go_at_call 40; refine (H _).mono ?_; rintro e w' ⟨rfl, b1⟩)
  go_ret
  exact ⟨rfl, by first | exact b1 | exact Below.then (below_al (Below.refl _ _) _) b1⟩
theorem qd : ∀ d r1 r2 : Bool, decide (0 ≤ Lib.indexByte (fstr d r1 r2).data.toList 100) = d := by decide +kernel
theorem q1 : ∀ d r1 r2 : Bool, decide (0 ≤ Lib.indexByte (fstr d r1 r2).data.toList 49) = r1 := by decide +kernel
theorem q2 : ∀ d r1 r2 : Bool, decide (0 ≤ Lib.indexByte (fstr d r1 r2).data.toList 50) = r2 := by decide +kernel
theorem has_d (f : Frm) (a : Option Addr) (n cap : Nat) (w : World) : Calls Try.prog 30 #[fv f a n cap, .string ⟨#[100]⟩] w fun e w' => e = .returned (.bool f.d) ∧ Below w.heap.size w w' := has_q f a n cap 100 _ (qd _ _ _) w
theorem has_1 (f : Frm) (a : Option Addr) (n cap : Nat) (w : World) : Calls Try.prog 30 #[fv f a n cap, .string ⟨#[49]⟩] w fun e w' => e = .returned (.bool f.r1) ∧ Below w.heap.size w w' := has_q f a n cap 49 _ (q1 _ _ _) w
theorem has_2 (f : Frm) (a : Option Addr) (n cap : Nat) (w : World) : Calls Try.prog 30 #[fv f a n cap, .string ⟨#[50]⟩] w fun e w' => e = .returned (.bool f.r2) ∧ Below w.heap.size w w' := has_q f a n cap 50 _ (q2 _ _ _) w
end Dec
end Go.Proofs.Ytpdemjdjgehpgaa
