/- DecodeBack: words come back from their ops, and ops from their words; two words do not say the same. No condition. -/
import Derived.Test.YtpdemjdjgehpgaaKit11
import Derived.Test.YtpdemjdjgehpgaaDcL3
namespace Go.Proofs.Ytpdemjdjgehpgaa
open Go.RowKit Dc
set_option linter.unusedVariables false
set_option linter.unusedSimpArgs false
namespace L11Back
open Dec
theorem word_ok {w : Int} {o : Dc.Op} (h : word w = some o) : (-9223372036854775808 ≤ o.name ∧ o.name ≤ 9223372036854775807) ∧ (0 ≤ o.imm ∧ o.imm < 4294967296) := by
  obtain ⟨j, hj, _, rfl⟩ := word_sound h
  refine ⟨?_, Dc.number_rng _ _⟩
  show -9223372036854775808 ≤ ((j + 1 : Nat) : Int) ∧ ((j + 1 : Nat) : Int) ≤ _
  omega
theorem zr {o : Dc.Op} {z : Int} (h : encode o = some z) : 0 ≤ z ∧ z < 4294967296 := by
  unfold encode at h
  split at h
  · cases h
  · dsimp only at h
    split at h
    · cases h
      exact build_rng _ _ _ (row_rng _ (by omega)).1 (row_rng _ (by omega)).2
    · cases h
theorem same_word {a b : Int} {x y : Dc.Op} (ha : 0 ≤ a) (ha' : a < 4294967296) (hb : 0 ≤ b) (hb' : b < 4294967296) (hx : word a = some x) (hy : word b = some y) (hne : ¬ a = b) (e0 : x.name = y.name) (e1 : x.rd = y.rd) (e2 : x.r1 = y.r1) (e3 : x.r2 = y.r2) (e4 : x.imm = y.imm) : False := by
  have e : x = y := by cases x; cases y; simp_all
  have h1 := encode_word ha ha' hx
  rw [e, encode_word hb hb' hy] at h1
  cases h1
  exact hne rfl
set_option maxHeartbeats 8000000 in
set_option maxRecDepth 100000 in
theorem DecodeBack_c (a0 : Int) (a1 : Int) (cs2 : Array Value) (w : World) (w0 : (Lit.int .u32 a0).wf = true) (w1 : (Lit.int .u32 a1).wf = true) (s2 : Sh.ok w (.agg 5 [(0, 1, .int .i64), (1, 1, .int .i64), (2, 1, .int .i64), (3, 1, .int .i64), (4, 1, .int .u32)]) cs2.toList) :
    Calls Try.prog 5 #[.int .u32 a0, .int .u32 a1, .agg cs2] w fun e w' => e = .returned (.bool true) ∧ Below w.heap.size w w' := by
  obtain ⟨p0, p1⟩ := wf_u32 w0
  obtain ⟨q0, q1⟩ := wf_u32 w1
  obtain ⟨o, ho, h1, h2⟩ := Kit11.opv_of s2
  rw [ho]
  clear ho s2 w0 w1
  have hal := fun W => Dliv.alive_c W
  obtain ⟨r1, hr1⟩ : ∃ rs, Hid (word a0 = rs) := ⟨_, rfl⟩
  obtain ⟨r2, hr2⟩ : ∃ rs, Hid (word a1 = rs) := ⟨_, rfl⟩
  obtain ⟨r3, hr3⟩ : ∃ rs, Hid (encode o = rs) := ⟨_, rfl⟩
  have W1 := fun W => Dec.word_r a0 W p0 p1 r1 hr1
  have W2 := fun W => Dec.word_r a1 W q0 q1 r2 hr2
  have N2 := fun W => Dec.encode_r o W h2.1 h2.2 h1.1 h1.2 r3 hr3
  rcases r1 with _ | x
  · rcases r2 with _ | y
    · rcases r3 with _ | z
      · unfold wordv opv at W1 W2
        unfold encv opv at N2
        unfold opv
        unfold Dc.Op.z at *
        go_enter Try.func5, Try.ntmps5
        go_wp2_with (first | (go_at_call 9; refine (hal _).mono ?_; rintro e w1 ⟨rfl, b1⟩; clear hal; obtain ⟨EO, B⟩ := alloc1_then b1; clear b1) | (go_at_call 10; first | (with_reducible refine (W1 _).mono ?_; rintro e w2 ⟨rfl, b2⟩; clear W1; replace EO := (b2.block _ (heap_lt EO)).trans EO; replace B := Below.then B b2; clear b2) | (with_reducible refine (W2 _).mono ?_; rintro e w3 ⟨rfl, b3⟩; clear W2; obtain ⟨EX, b4⟩ := alloc1_then b3; clear b3; replace EO := (b4.block _ (heap_lt EO)).trans EO; replace B := Below.then B b4; clear b4; obtain ⟨x0, x1, x2, x3, x4, _⟩ := cells5 EX; have X0 := fun q => Lib.cell?_alloc_some q x0; have X1 := fun q => Lib.cell?_alloc_some q x1; have X2 := fun q => Lib.cell?_alloc_some q x2; have X3 := fun q => Lib.cell?_alloc_some q x3; have X4 := fun q => Lib.cell?_alloc_some q x4; clear x0 x1 x2 x3 x4; obtain ⟨o0, o1, o2, o3, o4, _⟩ := cells5 EO; have O0 := fun q => Lib.cell?_alloc_some q o0; have O1 := fun q => Lib.cell?_alloc_some q o1; have O2 := fun q => Lib.cell?_alloc_some q o2; have O3 := fun q => Lib.cell?_alloc_some q o3; have O4 := fun q => Lib.cell?_alloc_some q o4; clear o0 o1 o2 o3 o4)) | (go_at_call 12; first | (with_reducible refine (N2 _).mono ?_; rintro e w7 ⟨rfl, b7⟩; clear N2 O0 O1 O2 O3 O4; obtain ⟨EY, b9⟩ := alloc1_then b7; clear b7; replace EO := (b9.block _ (heap_lt EO)).trans EO; replace B := Below.then B b9; clear b9; obtain ⟨o0, o1, o2, o3, o4, _⟩ := cells5 EO; have O0 := fun q => Lib.cell?_alloc_some q o0; have O1 := fun q => Lib.cell?_alloc_some q o1; have O2 := fun q => Lib.cell?_alloc_some q o2; have O3 := fun q => Lib.cell?_alloc_some q o3; have O4 := fun q => Lib.cell?_alloc_some q o4; clear o0 o1 o2 o3 o4)))
        all_goals first | (go_ret; exact ⟨rfl, by first | exact B | exact below_al B _⟩) | trace_state
      · unfold wordv opv at W1 W2
        have W3 := fun W => Dec.word_r z W (zr hr3.out).1 (zr hr3.out).2 (some o) (word_encode hr3.out)
        unfold wordv opv at W3
        unfold encv opv at N2
        unfold opv
        unfold Dc.Op.z at *
        go_enter Try.func5, Try.ntmps5
        go_wp2_with (first | (go_at_call 9; refine (hal _).mono ?_; rintro e w1 ⟨rfl, b1⟩; clear hal; obtain ⟨EO, B⟩ := alloc1_then b1; clear b1) | (go_at_call 10; first | (with_reducible refine (W1 _).mono ?_; rintro e w2 ⟨rfl, b2⟩; clear W1; replace EO := (b2.block _ (heap_lt EO)).trans EO; replace B := Below.then B b2; clear b2) | (with_reducible refine (W2 _).mono ?_; rintro e w3 ⟨rfl, b3⟩; clear W2; obtain ⟨EX, b4⟩ := alloc1_then b3; clear b3; replace EO := (b4.block _ (heap_lt EO)).trans EO; replace B := Below.then B b4; clear b4; obtain ⟨x0, x1, x2, x3, x4, _⟩ := cells5 EX; have X0 := fun q => Lib.cell?_alloc_some q x0; have X1 := fun q => Lib.cell?_alloc_some q x1; have X2 := fun q => Lib.cell?_alloc_some q x2; have X3 := fun q => Lib.cell?_alloc_some q x3; have X4 := fun q => Lib.cell?_alloc_some q x4; clear x0 x1 x2 x3 x4; obtain ⟨o0, o1, o2, o3, o4, _⟩ := cells5 EO; have O0 := fun q => Lib.cell?_alloc_some q o0; have O1 := fun q => Lib.cell?_alloc_some q o1; have O2 := fun q => Lib.cell?_alloc_some q o2; have O3 := fun q => Lib.cell?_alloc_some q o3; have O4 := fun q => Lib.cell?_alloc_some q o4; clear o0 o1 o2 o3 o4) | (with_reducible refine (W3 _).mono ?_; rintro e w8 ⟨rfl, b8⟩; clear W3; clear O0 O1 O2 O3 O4; replace EO := (b8.block _ (heap_lt EO)).trans EO; replace B := Below.then B b8; clear b8; obtain ⟨o0, o1, o2, o3, o4, _⟩ := cells5 EO; have O0 := fun q => Lib.cell?_alloc_some q o0; have O1 := fun q => Lib.cell?_alloc_some q o1; have O2 := fun q => Lib.cell?_alloc_some q o2; have O3 := fun q => Lib.cell?_alloc_some q o3; have O4 := fun q => Lib.cell?_alloc_some q o4; clear o0 o1 o2 o3 o4)) | (go_at_call 12; first | (with_reducible refine (N2 _).mono ?_; rintro e w7 ⟨rfl, b7⟩; clear N2 O0 O1 O2 O3 O4; obtain ⟨EY, b9⟩ := alloc1_then b7; clear b7; replace EO := (b9.block _ (heap_lt EO)).trans EO; replace B := Below.then B b9; clear b9; obtain ⟨o0, o1, o2, o3, o4, _⟩ := cells5 EO; have O0 := fun q => Lib.cell?_alloc_some q o0; have O1 := fun q => Lib.cell?_alloc_some q o1; have O2 := fun q => Lib.cell?_alloc_some q o2; have O3 := fun q => Lib.cell?_alloc_some q o3; have O4 := fun q => Lib.cell?_alloc_some q o4; clear o0 o1 o2 o3 o4)))
        all_goals first | (go_ret; exact ⟨rfl, by first | exact B | exact below_al B _⟩) | trace_state
    · rcases r3 with _ | z
      · unfold wordv opv at W1 W2
        unfold encv opv at N2
        unfold opv
        unfold Dc.Op.z at *
        go_enter Try.func5, Try.ntmps5
        go_wp2_with (first | (go_at_call 9; refine (hal _).mono ?_; rintro e w1 ⟨rfl, b1⟩; clear hal; obtain ⟨EO, B⟩ := alloc1_then b1; clear b1) | (go_at_call 10; first | (with_reducible refine (W1 _).mono ?_; rintro e w2 ⟨rfl, b2⟩; clear W1; replace EO := (b2.block _ (heap_lt EO)).trans EO; replace B := Below.then B b2; clear b2) | (with_reducible refine (W2 _).mono ?_; rintro e w3 ⟨rfl, b3⟩; clear W2; obtain ⟨EX, b4⟩ := alloc1_then b3; clear b3; replace EO := (b4.block _ (heap_lt EO)).trans EO; replace B := Below.then B b4; clear b4; obtain ⟨x0, x1, x2, x3, x4, _⟩ := cells5 EX; have X0 := fun q => Lib.cell?_alloc_some q x0; have X1 := fun q => Lib.cell?_alloc_some q x1; have X2 := fun q => Lib.cell?_alloc_some q x2; have X3 := fun q => Lib.cell?_alloc_some q x3; have X4 := fun q => Lib.cell?_alloc_some q x4; clear x0 x1 x2 x3 x4; obtain ⟨o0, o1, o2, o3, o4, _⟩ := cells5 EO; have O0 := fun q => Lib.cell?_alloc_some q o0; have O1 := fun q => Lib.cell?_alloc_some q o1; have O2 := fun q => Lib.cell?_alloc_some q o2; have O3 := fun q => Lib.cell?_alloc_some q o3; have O4 := fun q => Lib.cell?_alloc_some q o4; clear o0 o1 o2 o3 o4)) | (go_at_call 12; first | (with_reducible refine (N2 _).mono ?_; rintro e w7 ⟨rfl, b7⟩; clear N2 O0 O1 O2 O3 O4; obtain ⟨EY, b9⟩ := alloc1_then b7; clear b7; replace EO := (b9.block _ (heap_lt EO)).trans EO; replace B := Below.then B b9; clear b9; obtain ⟨o0, o1, o2, o3, o4, _⟩ := cells5 EO; have O0 := fun q => Lib.cell?_alloc_some q o0; have O1 := fun q => Lib.cell?_alloc_some q o1; have O2 := fun q => Lib.cell?_alloc_some q o2; have O3 := fun q => Lib.cell?_alloc_some q o3; have O4 := fun q => Lib.cell?_alloc_some q o4; clear o0 o1 o2 o3 o4)))
        all_goals first | (go_ret; exact ⟨rfl, by first | exact B | exact below_al B _⟩) | trace_state
      · unfold wordv opv at W1 W2
        have W3 := fun W => Dec.word_r z W (zr hr3.out).1 (zr hr3.out).2 (some o) (word_encode hr3.out)
        unfold wordv opv at W3
        unfold encv opv at N2
        unfold opv
        unfold Dc.Op.z at *
        go_enter Try.func5, Try.ntmps5
        go_wp2_with (first | (go_at_call 9; refine (hal _).mono ?_; rintro e w1 ⟨rfl, b1⟩; clear hal; obtain ⟨EO, B⟩ := alloc1_then b1; clear b1) | (go_at_call 10; first | (with_reducible refine (W1 _).mono ?_; rintro e w2 ⟨rfl, b2⟩; clear W1; replace EO := (b2.block _ (heap_lt EO)).trans EO; replace B := Below.then B b2; clear b2) | (with_reducible refine (W2 _).mono ?_; rintro e w3 ⟨rfl, b3⟩; clear W2; obtain ⟨EX, b4⟩ := alloc1_then b3; clear b3; replace EO := (b4.block _ (heap_lt EO)).trans EO; replace B := Below.then B b4; clear b4; obtain ⟨x0, x1, x2, x3, x4, _⟩ := cells5 EX; have X0 := fun q => Lib.cell?_alloc_some q x0; have X1 := fun q => Lib.cell?_alloc_some q x1; have X2 := fun q => Lib.cell?_alloc_some q x2; have X3 := fun q => Lib.cell?_alloc_some q x3; have X4 := fun q => Lib.cell?_alloc_some q x4; clear x0 x1 x2 x3 x4; obtain ⟨o0, o1, o2, o3, o4, _⟩ := cells5 EO; have O0 := fun q => Lib.cell?_alloc_some q o0; have O1 := fun q => Lib.cell?_alloc_some q o1; have O2 := fun q => Lib.cell?_alloc_some q o2; have O3 := fun q => Lib.cell?_alloc_some q o3; have O4 := fun q => Lib.cell?_alloc_some q o4; clear o0 o1 o2 o3 o4) | (with_reducible refine (W3 _).mono ?_; rintro e w8 ⟨rfl, b8⟩; clear W3; clear O0 O1 O2 O3 O4; replace EO := (b8.block _ (heap_lt EO)).trans EO; replace B := Below.then B b8; clear b8; obtain ⟨o0, o1, o2, o3, o4, _⟩ := cells5 EO; have O0 := fun q => Lib.cell?_alloc_some q o0; have O1 := fun q => Lib.cell?_alloc_some q o1; have O2 := fun q => Lib.cell?_alloc_some q o2; have O3 := fun q => Lib.cell?_alloc_some q o3; have O4 := fun q => Lib.cell?_alloc_some q o4; clear o0 o1 o2 o3 o4)) | (go_at_call 12; first | (with_reducible refine (N2 _).mono ?_; rintro e w7 ⟨rfl, b7⟩; clear N2 O0 O1 O2 O3 O4; obtain ⟨EY, b9⟩ := alloc1_then b7; clear b7; replace EO := (b9.block _ (heap_lt EO)).trans EO; replace B := Below.then B b9; clear b9; obtain ⟨o0, o1, o2, o3, o4, _⟩ := cells5 EO; have O0 := fun q => Lib.cell?_alloc_some q o0; have O1 := fun q => Lib.cell?_alloc_some q o1; have O2 := fun q => Lib.cell?_alloc_some q o2; have O3 := fun q => Lib.cell?_alloc_some q o3; have O4 := fun q => Lib.cell?_alloc_some q o4; clear o0 o1 o2 o3 o4)))
        all_goals first | (go_ret; exact ⟨rfl, by first | exact B | exact below_al B _⟩) | trace_state
  · rcases r2 with _ | y
    · rcases r3 with _ | z
      · unfold wordv opv at W1 W2
        have N1 := fun W => Dec.encode_r x W (word_ok hr1.out).2.1 (word_ok hr1.out).2.2 (word_ok hr1.out).1.1 (word_ok hr1.out).1.2 (some a0) (encode_word p0 p1 hr1.out)
        unfold encv opv at N1
        unfold encv opv at N2
        unfold opv
        unfold Dc.Op.z at *
        go_enter Try.func5, Try.ntmps5
        go_wp2_with (first | (go_at_call 9; refine (hal _).mono ?_; rintro e w1 ⟨rfl, b1⟩; clear hal; obtain ⟨EO, B⟩ := alloc1_then b1; clear b1) | (go_at_call 10; first | (with_reducible refine (W1 _).mono ?_; rintro e w2 ⟨rfl, b2⟩; clear W1; replace EO := (b2.block _ (heap_lt EO)).trans EO; replace B := Below.then B b2; clear b2) | (with_reducible refine (W2 _).mono ?_; rintro e w3 ⟨rfl, b3⟩; clear W2; obtain ⟨EX, b4⟩ := alloc1_then b3; clear b3; replace EO := (b4.block _ (heap_lt EO)).trans EO; replace B := Below.then B b4; clear b4; obtain ⟨x0, x1, x2, x3, x4, _⟩ := cells5 EX; have X0 := fun q => Lib.cell?_alloc_some q x0; have X1 := fun q => Lib.cell?_alloc_some q x1; have X2 := fun q => Lib.cell?_alloc_some q x2; have X3 := fun q => Lib.cell?_alloc_some q x3; have X4 := fun q => Lib.cell?_alloc_some q x4; clear x0 x1 x2 x3 x4; obtain ⟨o0, o1, o2, o3, o4, _⟩ := cells5 EO; have O0 := fun q => Lib.cell?_alloc_some q o0; have O1 := fun q => Lib.cell?_alloc_some q o1; have O2 := fun q => Lib.cell?_alloc_some q o2; have O3 := fun q => Lib.cell?_alloc_some q o3; have O4 := fun q => Lib.cell?_alloc_some q o4; clear o0 o1 o2 o3 o4)) | (go_at_call 12; first | (with_reducible refine (N1 _).mono ?_; rintro e w5 ⟨rfl, b5⟩; clear N1; obtain ⟨EY, b6⟩ := alloc1_then b5; clear b5 X0 X1 X2 X3 X4 O0 O1 O2 O3 O4; replace EO := (b6.block _ (heap_lt EO)).trans EO; replace EX := (b6.block _ (heap_lt EX)).trans EX; replace B := Below.then B b6; clear b6; obtain ⟨x0, x1, x2, x3, x4, _⟩ := cells5 EX; obtain ⟨y0, y1, y2, y3, y4, _⟩ := cells5 EY; obtain ⟨o0, o1, o2, o3, o4, _⟩ := cells5 EO) | (with_reducible refine (N2 _).mono ?_; rintro e w7 ⟨rfl, b7⟩; clear N2 o0 o1 o2 o3 o4; replace EO := (b7.block _ (heap_lt EO)).trans EO; replace B := Below.then B b7; clear b7; obtain ⟨o0, o1, o2, o3, o4, _⟩ := cells5 EO; have O0 := fun q => Lib.cell?_alloc_some q o0; have O1 := fun q => Lib.cell?_alloc_some q o1; have O2 := fun q => Lib.cell?_alloc_some q o2; have O3 := fun q => Lib.cell?_alloc_some q o3; have O4 := fun q => Lib.cell?_alloc_some q o4; clear o0 o1 o2 o3 o4)))
        all_goals first | (go_ret; exact ⟨rfl, by first | exact B | exact below_al B _⟩) | trace_state
      · unfold wordv opv at W1 W2
        have W3 := fun W => Dec.word_r z W (zr hr3.out).1 (zr hr3.out).2 (some o) (word_encode hr3.out)
        unfold wordv opv at W3
        have N1 := fun W => Dec.encode_r x W (word_ok hr1.out).2.1 (word_ok hr1.out).2.2 (word_ok hr1.out).1.1 (word_ok hr1.out).1.2 (some a0) (encode_word p0 p1 hr1.out)
        unfold encv opv at N1
        unfold encv opv at N2
        unfold opv
        unfold Dc.Op.z at *
        go_enter Try.func5, Try.ntmps5
        go_wp2_with (first | (go_at_call 9; refine (hal _).mono ?_; rintro e w1 ⟨rfl, b1⟩; clear hal; obtain ⟨EO, B⟩ := alloc1_then b1; clear b1) | (go_at_call 10; first | (with_reducible refine (W1 _).mono ?_; rintro e w2 ⟨rfl, b2⟩; clear W1; replace EO := (b2.block _ (heap_lt EO)).trans EO; replace B := Below.then B b2; clear b2) | (with_reducible refine (W2 _).mono ?_; rintro e w3 ⟨rfl, b3⟩; clear W2; obtain ⟨EX, b4⟩ := alloc1_then b3; clear b3; replace EO := (b4.block _ (heap_lt EO)).trans EO; replace B := Below.then B b4; clear b4; obtain ⟨x0, x1, x2, x3, x4, _⟩ := cells5 EX; have X0 := fun q => Lib.cell?_alloc_some q x0; have X1 := fun q => Lib.cell?_alloc_some q x1; have X2 := fun q => Lib.cell?_alloc_some q x2; have X3 := fun q => Lib.cell?_alloc_some q x3; have X4 := fun q => Lib.cell?_alloc_some q x4; clear x0 x1 x2 x3 x4; obtain ⟨o0, o1, o2, o3, o4, _⟩ := cells5 EO; have O0 := fun q => Lib.cell?_alloc_some q o0; have O1 := fun q => Lib.cell?_alloc_some q o1; have O2 := fun q => Lib.cell?_alloc_some q o2; have O3 := fun q => Lib.cell?_alloc_some q o3; have O4 := fun q => Lib.cell?_alloc_some q o4; clear o0 o1 o2 o3 o4) | (with_reducible refine (W3 _).mono ?_; rintro e w8 ⟨rfl, b8⟩; clear W3; clear O0 O1 O2 O3 O4; replace EO := (b8.block _ (heap_lt EO)).trans EO; replace B := Below.then B b8; clear b8; obtain ⟨o0, o1, o2, o3, o4, _⟩ := cells5 EO; have O0 := fun q => Lib.cell?_alloc_some q o0; have O1 := fun q => Lib.cell?_alloc_some q o1; have O2 := fun q => Lib.cell?_alloc_some q o2; have O3 := fun q => Lib.cell?_alloc_some q o3; have O4 := fun q => Lib.cell?_alloc_some q o4; clear o0 o1 o2 o3 o4)) | (go_at_call 12; first | (with_reducible refine (N1 _).mono ?_; rintro e w5 ⟨rfl, b5⟩; clear N1; obtain ⟨EY, b6⟩ := alloc1_then b5; clear b5 X0 X1 X2 X3 X4 O0 O1 O2 O3 O4; replace EO := (b6.block _ (heap_lt EO)).trans EO; replace EX := (b6.block _ (heap_lt EX)).trans EX; replace B := Below.then B b6; clear b6; obtain ⟨x0, x1, x2, x3, x4, _⟩ := cells5 EX; obtain ⟨y0, y1, y2, y3, y4, _⟩ := cells5 EY; obtain ⟨o0, o1, o2, o3, o4, _⟩ := cells5 EO) | (with_reducible refine (N2 _).mono ?_; rintro e w7 ⟨rfl, b7⟩; clear N2 o0 o1 o2 o3 o4; replace EO := (b7.block _ (heap_lt EO)).trans EO; replace B := Below.then B b7; clear b7; obtain ⟨o0, o1, o2, o3, o4, _⟩ := cells5 EO; have O0 := fun q => Lib.cell?_alloc_some q o0; have O1 := fun q => Lib.cell?_alloc_some q o1; have O2 := fun q => Lib.cell?_alloc_some q o2; have O3 := fun q => Lib.cell?_alloc_some q o3; have O4 := fun q => Lib.cell?_alloc_some q o4; clear o0 o1 o2 o3 o4)))
        all_goals first | (go_ret; exact ⟨rfl, by first | exact B | exact below_al B _⟩) | trace_state
    · rcases r3 with _ | z
      · by_cases hne : a0 = a1
        · subst hne
          have e := hr1.out.symm.trans hr2.out
          cases e
          clear hr2 W2
          have W2 := W1
          unfold wordv opv at W1 W2
          have N1 := fun W => Dec.encode_r x W (word_ok hr1.out).2.1 (word_ok hr1.out).2.2 (word_ok hr1.out).1.1 (word_ok hr1.out).1.2 (some a0) (encode_word p0 p1 hr1.out)
          unfold encv opv at N1
          unfold encv opv at N2
          unfold opv
          go_enter Try.func5, Try.ntmps5
          go_wp2_with (first | (go_at_call 9; refine (hal _).mono ?_; rintro e w1 ⟨rfl, b1⟩; clear hal; obtain ⟨EO, B⟩ := alloc1_then b1; clear b1) | (go_at_call 10; first | (with_reducible refine (W1 _).mono ?_; rintro e w2 ⟨rfl, b2⟩; clear W1; replace EO := (b2.block _ (heap_lt EO)).trans EO; replace B := Below.then B b2; clear b2) | (with_reducible refine (W2 _).mono ?_; rintro e w3 ⟨rfl, b3⟩; clear W2; obtain ⟨EX, b4⟩ := alloc1_then b3; clear b3; replace EO := (b4.block _ (heap_lt EO)).trans EO; replace B := Below.then B b4; clear b4; obtain ⟨x0, x1, x2, x3, x4, _⟩ := cells5 EX; have X0 := fun q => Lib.cell?_alloc_some q x0; have X1 := fun q => Lib.cell?_alloc_some q x1; have X2 := fun q => Lib.cell?_alloc_some q x2; have X3 := fun q => Lib.cell?_alloc_some q x3; have X4 := fun q => Lib.cell?_alloc_some q x4; clear x0 x1 x2 x3 x4; obtain ⟨o0, o1, o2, o3, o4, _⟩ := cells5 EO; have O0 := fun q => Lib.cell?_alloc_some q o0; have O1 := fun q => Lib.cell?_alloc_some q o1; have O2 := fun q => Lib.cell?_alloc_some q o2; have O3 := fun q => Lib.cell?_alloc_some q o3; have O4 := fun q => Lib.cell?_alloc_some q o4; clear o0 o1 o2 o3 o4)) | (go_at_call 12; first | (with_reducible refine (N1 _).mono ?_; rintro e w5 ⟨rfl, b5⟩; clear N1; obtain ⟨EY, b6⟩ := alloc1_then b5; clear b5 X0 X1 X2 X3 X4 O0 O1 O2 O3 O4; replace EO := (b6.block _ (heap_lt EO)).trans EO; replace EX := (b6.block _ (heap_lt EX)).trans EX; replace B := Below.then B b6; clear b6; obtain ⟨x0, x1, x2, x3, x4, _⟩ := cells5 EX; obtain ⟨y0, y1, y2, y3, y4, _⟩ := cells5 EY; obtain ⟨o0, o1, o2, o3, o4, _⟩ := cells5 EO) | (with_reducible refine (N2 _).mono ?_; rintro e w7 ⟨rfl, b7⟩; clear N2 o0 o1 o2 o3 o4; replace EO := (b7.block _ (heap_lt EO)).trans EO; replace B := Below.then B b7; clear b7; obtain ⟨o0, o1, o2, o3, o4, _⟩ := cells5 EO; have O0 := fun q => Lib.cell?_alloc_some q o0; have O1 := fun q => Lib.cell?_alloc_some q o1; have O2 := fun q => Lib.cell?_alloc_some q o2; have O3 := fun q => Lib.cell?_alloc_some q o3; have O4 := fun q => Lib.cell?_alloc_some q o4; clear o0 o1 o2 o3 o4)))
          all_goals first | (go_ret; exact ⟨rfl, by first | exact B | exact below_al B _⟩) | (exfalso; exact same_word p0 p1 q0 q1 hr1.out hr2.out hne (by assumption) (by assumption) (by assumption) (by assumption) (by assumption)) | trace_state
        · have hb0 : (a0 == a1) = false := beq_eq_false_iff_ne.2 hne
          unfold wordv opv at W1 W2
          have N1 := fun W => Dec.encode_r x W (word_ok hr1.out).2.1 (word_ok hr1.out).2.2 (word_ok hr1.out).1.1 (word_ok hr1.out).1.2 (some a0) (encode_word p0 p1 hr1.out)
          unfold encv opv at N1
          unfold encv opv at N2
          unfold opv
          go_enter Try.func5, Try.ntmps5
          go_wp2_with (first | (go_at_call 9; refine (hal _).mono ?_; rintro e w1 ⟨rfl, b1⟩; clear hal; obtain ⟨EO, B⟩ := alloc1_then b1; clear b1) | (go_at_call 10; first | (with_reducible refine (W1 _).mono ?_; rintro e w2 ⟨rfl, b2⟩; clear W1; replace EO := (b2.block _ (heap_lt EO)).trans EO; replace B := Below.then B b2; clear b2) | (with_reducible refine (W2 _).mono ?_; rintro e w3 ⟨rfl, b3⟩; clear W2; obtain ⟨EX, b4⟩ := alloc1_then b3; clear b3; replace EO := (b4.block _ (heap_lt EO)).trans EO; replace B := Below.then B b4; clear b4; obtain ⟨x0, x1, x2, x3, x4, _⟩ := cells5 EX; have X0 := fun q => Lib.cell?_alloc_some q x0; have X1 := fun q => Lib.cell?_alloc_some q x1; have X2 := fun q => Lib.cell?_alloc_some q x2; have X3 := fun q => Lib.cell?_alloc_some q x3; have X4 := fun q => Lib.cell?_alloc_some q x4; clear x0 x1 x2 x3 x4; obtain ⟨o0, o1, o2, o3, o4, _⟩ := cells5 EO; have O0 := fun q => Lib.cell?_alloc_some q o0; have O1 := fun q => Lib.cell?_alloc_some q o1; have O2 := fun q => Lib.cell?_alloc_some q o2; have O3 := fun q => Lib.cell?_alloc_some q o3; have O4 := fun q => Lib.cell?_alloc_some q o4; clear o0 o1 o2 o3 o4)) | (go_at_call 12; first | (with_reducible refine (N1 _).mono ?_; rintro e w5 ⟨rfl, b5⟩; clear N1; obtain ⟨EY, b6⟩ := alloc1_then b5; clear b5 X0 X1 X2 X3 X4 O0 O1 O2 O3 O4; replace EO := (b6.block _ (heap_lt EO)).trans EO; replace EX := (b6.block _ (heap_lt EX)).trans EX; replace B := Below.then B b6; clear b6; obtain ⟨x0, x1, x2, x3, x4, _⟩ := cells5 EX; obtain ⟨y0, y1, y2, y3, y4, _⟩ := cells5 EY; obtain ⟨o0, o1, o2, o3, o4, _⟩ := cells5 EO) | (with_reducible refine (N2 _).mono ?_; rintro e w7 ⟨rfl, b7⟩; clear N2 o0 o1 o2 o3 o4; replace EO := (b7.block _ (heap_lt EO)).trans EO; replace B := Below.then B b7; clear b7; obtain ⟨o0, o1, o2, o3, o4, _⟩ := cells5 EO; have O0 := fun q => Lib.cell?_alloc_some q o0; have O1 := fun q => Lib.cell?_alloc_some q o1; have O2 := fun q => Lib.cell?_alloc_some q o2; have O3 := fun q => Lib.cell?_alloc_some q o3; have O4 := fun q => Lib.cell?_alloc_some q o4; clear o0 o1 o2 o3 o4)))
          all_goals first | (go_ret; exact ⟨rfl, by first | exact B | exact below_al B _⟩) | (exfalso; exact same_word p0 p1 q0 q1 hr1.out hr2.out hne (by assumption) (by assumption) (by assumption) (by assumption) (by assumption)) | trace_state
      · by_cases hne : a0 = a1
        · subst hne
          have e := hr1.out.symm.trans hr2.out
          cases e
          clear hr2 W2
          have W2 := W1
          unfold wordv opv at W1 W2
          have W3 := fun W => Dec.word_r z W (zr hr3.out).1 (zr hr3.out).2 (some o) (word_encode hr3.out)
          unfold wordv opv at W3
          have N1 := fun W => Dec.encode_r x W (word_ok hr1.out).2.1 (word_ok hr1.out).2.2 (word_ok hr1.out).1.1 (word_ok hr1.out).1.2 (some a0) (encode_word p0 p1 hr1.out)
          unfold encv opv at N1
          unfold encv opv at N2
          unfold opv
          go_enter Try.func5, Try.ntmps5
          go_wp2_with (first | (go_at_call 9; refine (hal _).mono ?_; rintro e w1 ⟨rfl, b1⟩; clear hal; obtain ⟨EO, B⟩ := alloc1_then b1; clear b1) | (go_at_call 10; first | (with_reducible refine (W1 _).mono ?_; rintro e w2 ⟨rfl, b2⟩; clear W1; replace EO := (b2.block _ (heap_lt EO)).trans EO; replace B := Below.then B b2; clear b2) | (with_reducible refine (W2 _).mono ?_; rintro e w3 ⟨rfl, b3⟩; clear W2; obtain ⟨EX, b4⟩ := alloc1_then b3; clear b3; replace EO := (b4.block _ (heap_lt EO)).trans EO; replace B := Below.then B b4; clear b4; obtain ⟨x0, x1, x2, x3, x4, _⟩ := cells5 EX; have X0 := fun q => Lib.cell?_alloc_some q x0; have X1 := fun q => Lib.cell?_alloc_some q x1; have X2 := fun q => Lib.cell?_alloc_some q x2; have X3 := fun q => Lib.cell?_alloc_some q x3; have X4 := fun q => Lib.cell?_alloc_some q x4; clear x0 x1 x2 x3 x4; obtain ⟨o0, o1, o2, o3, o4, _⟩ := cells5 EO; have O0 := fun q => Lib.cell?_alloc_some q o0; have O1 := fun q => Lib.cell?_alloc_some q o1; have O2 := fun q => Lib.cell?_alloc_some q o2; have O3 := fun q => Lib.cell?_alloc_some q o3; have O4 := fun q => Lib.cell?_alloc_some q o4; clear o0 o1 o2 o3 o4) | (with_reducible refine (W3 _).mono ?_; rintro e w8 ⟨rfl, b8⟩; clear W3; clear O0 O1 O2 O3 O4; replace EO := (b8.block _ (heap_lt EO)).trans EO; replace B := Below.then B b8; clear b8; obtain ⟨o0, o1, o2, o3, o4, _⟩ := cells5 EO; have O0 := fun q => Lib.cell?_alloc_some q o0; have O1 := fun q => Lib.cell?_alloc_some q o1; have O2 := fun q => Lib.cell?_alloc_some q o2; have O3 := fun q => Lib.cell?_alloc_some q o3; have O4 := fun q => Lib.cell?_alloc_some q o4; clear o0 o1 o2 o3 o4)) | (go_at_call 12; first | (with_reducible refine (N1 _).mono ?_; rintro e w5 ⟨rfl, b5⟩; clear N1; obtain ⟨EY, b6⟩ := alloc1_then b5; clear b5 X0 X1 X2 X3 X4 O0 O1 O2 O3 O4; replace EO := (b6.block _ (heap_lt EO)).trans EO; replace EX := (b6.block _ (heap_lt EX)).trans EX; replace B := Below.then B b6; clear b6; obtain ⟨x0, x1, x2, x3, x4, _⟩ := cells5 EX; obtain ⟨y0, y1, y2, y3, y4, _⟩ := cells5 EY; obtain ⟨o0, o1, o2, o3, o4, _⟩ := cells5 EO) | (with_reducible refine (N2 _).mono ?_; rintro e w7 ⟨rfl, b7⟩; clear N2 o0 o1 o2 o3 o4; replace EO := (b7.block _ (heap_lt EO)).trans EO; replace B := Below.then B b7; clear b7; obtain ⟨o0, o1, o2, o3, o4, _⟩ := cells5 EO; have O0 := fun q => Lib.cell?_alloc_some q o0; have O1 := fun q => Lib.cell?_alloc_some q o1; have O2 := fun q => Lib.cell?_alloc_some q o2; have O3 := fun q => Lib.cell?_alloc_some q o3; have O4 := fun q => Lib.cell?_alloc_some q o4; clear o0 o1 o2 o3 o4)))
          all_goals first | (go_ret; exact ⟨rfl, by first | exact B | exact below_al B _⟩) | (exfalso; exact same_word p0 p1 q0 q1 hr1.out hr2.out hne (by assumption) (by assumption) (by assumption) (by assumption) (by assumption)) | trace_state
        · have hb0 : (a0 == a1) = false := beq_eq_false_iff_ne.2 hne
          unfold wordv opv at W1 W2
          have W3 := fun W => Dec.word_r z W (zr hr3.out).1 (zr hr3.out).2 (some o) (word_encode hr3.out)
          unfold wordv opv at W3
          have N1 := fun W => Dec.encode_r x W (word_ok hr1.out).2.1 (word_ok hr1.out).2.2 (word_ok hr1.out).1.1 (word_ok hr1.out).1.2 (some a0) (encode_word p0 p1 hr1.out)
          unfold encv opv at N1
          unfold encv opv at N2
          unfold opv
          go_enter Try.func5, Try.ntmps5
          go_wp2_with (first | (go_at_call 9; refine (hal _).mono ?_; rintro e w1 ⟨rfl, b1⟩; clear hal; obtain ⟨EO, B⟩ := alloc1_then b1; clear b1) | (go_at_call 10; first | (with_reducible refine (W1 _).mono ?_; rintro e w2 ⟨rfl, b2⟩; clear W1; replace EO := (b2.block _ (heap_lt EO)).trans EO; replace B := Below.then B b2; clear b2) | (with_reducible refine (W2 _).mono ?_; rintro e w3 ⟨rfl, b3⟩; clear W2; obtain ⟨EX, b4⟩ := alloc1_then b3; clear b3; replace EO := (b4.block _ (heap_lt EO)).trans EO; replace B := Below.then B b4; clear b4; obtain ⟨x0, x1, x2, x3, x4, _⟩ := cells5 EX; have X0 := fun q => Lib.cell?_alloc_some q x0; have X1 := fun q => Lib.cell?_alloc_some q x1; have X2 := fun q => Lib.cell?_alloc_some q x2; have X3 := fun q => Lib.cell?_alloc_some q x3; have X4 := fun q => Lib.cell?_alloc_some q x4; clear x0 x1 x2 x3 x4; obtain ⟨o0, o1, o2, o3, o4, _⟩ := cells5 EO; have O0 := fun q => Lib.cell?_alloc_some q o0; have O1 := fun q => Lib.cell?_alloc_some q o1; have O2 := fun q => Lib.cell?_alloc_some q o2; have O3 := fun q => Lib.cell?_alloc_some q o3; have O4 := fun q => Lib.cell?_alloc_some q o4; clear o0 o1 o2 o3 o4) | (with_reducible refine (W3 _).mono ?_; rintro e w8 ⟨rfl, b8⟩; clear W3; clear O0 O1 O2 O3 O4; replace EO := (b8.block _ (heap_lt EO)).trans EO; replace B := Below.then B b8; clear b8; obtain ⟨o0, o1, o2, o3, o4, _⟩ := cells5 EO; have O0 := fun q => Lib.cell?_alloc_some q o0; have O1 := fun q => Lib.cell?_alloc_some q o1; have O2 := fun q => Lib.cell?_alloc_some q o2; have O3 := fun q => Lib.cell?_alloc_some q o3; have O4 := fun q => Lib.cell?_alloc_some q o4; clear o0 o1 o2 o3 o4)) | (go_at_call 12; first | (with_reducible refine (N1 _).mono ?_; rintro e w5 ⟨rfl, b5⟩; clear N1; obtain ⟨EY, b6⟩ := alloc1_then b5; clear b5 X0 X1 X2 X3 X4 O0 O1 O2 O3 O4; replace EO := (b6.block _ (heap_lt EO)).trans EO; replace EX := (b6.block _ (heap_lt EX)).trans EX; replace B := Below.then B b6; clear b6; obtain ⟨x0, x1, x2, x3, x4, _⟩ := cells5 EX; obtain ⟨y0, y1, y2, y3, y4, _⟩ := cells5 EY; obtain ⟨o0, o1, o2, o3, o4, _⟩ := cells5 EO) | (with_reducible refine (N2 _).mono ?_; rintro e w7 ⟨rfl, b7⟩; clear N2 o0 o1 o2 o3 o4; replace EO := (b7.block _ (heap_lt EO)).trans EO; replace B := Below.then B b7; clear b7; obtain ⟨o0, o1, o2, o3, o4, _⟩ := cells5 EO; have O0 := fun q => Lib.cell?_alloc_some q o0; have O1 := fun q => Lib.cell?_alloc_some q o1; have O2 := fun q => Lib.cell?_alloc_some q o2; have O3 := fun q => Lib.cell?_alloc_some q o3; have O4 := fun q => Lib.cell?_alloc_some q o4; clear o0 o1 o2 o3 o4)))
          all_goals first | (go_ret; exact ⟨rfl, by first | exact B | exact below_al B _⟩) | (exfalso; exact same_word p0 p1 q0 q1 hr1.out hr2.out hne (by assumption) (by assumption) (by assumption) (by assumption) (by assumption)) | trace_state
end L11Back
end Go.Proofs.Ytpdemjdjgehpgaa
