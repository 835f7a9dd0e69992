/- DecodeEncodes: the word that says any op, and whether its name writes a register, is the document's, or there is none. No condition. -/
import Derived.Test.YtpdemjdjgehpgaaRf4
import Derived.Test.YtpdemjdjgehpgaaKit11
import Derived.Deep.RegionHeld3
namespace Go.Proofs.Ytpdemjdjgehpgaa
open Go.RowKit Dc
set_option linter.unusedVariables false
set_option linter.unusedSimpArgs false
namespace L11Encodes
open Dec
set_option maxHeartbeats 2000000 in
set_option maxRecDepth 100000 in
theorem DecodeEncodes_c (cs0 : Array Value) (w : World) (s0 : Sh.ok w (.agg 5 [(0, 1, .int .i64), (1, 1, .int .i64), (2, 1, .int .i64), (3, 1, .int .i64), (4, 1, .int .u32)]) cs0.toList) :
    Calls Try.prog 4 #[.agg cs0] w fun e w' => e = .returned (.bool true) ∧ Below w.heap.size w w' := by
  obtain ⟨o, ho, h1, h2⟩ := Kit11.opv_of s0
  rw [ho]
  clear ho s0
  obtain ⟨rs, hrs⟩ : ∃ rs, Hid (encode o = rs) := ⟨_, rfl⟩
  have W1 := fun W => Dec.encode_r o W h2.1 h2.2 h1.1 h1.2 rs hrs
  have W2 := fun W => Rf.encode_r o W h2.1 h2.2 rs hrs
  have hal := fun W => Dliv.alive_c W
  obtain ⟨q, hq⟩ : ∃ q, Hid (writes o.name = q) := ⟨_, rfl⟩
  have P1 := fun W => Dec.writes_r o.name W q hq
  have P2 := fun W => Rf.writes_r o.name W q hq
  clear hrs hq h1 h2
  rcases rs with _ | oo
  all_goals
    unfold encv at W1 W2
    unfold opv at *
    go_enter Try.func4, Try.ntmps4
    go_wp2_with (first | (go_at_call 9; refine (hal _).mono ?_; rintro e w1 ⟨rfl, b1⟩; obtain ⟨E, B⟩ := alloc1_then b1; clear b1; obtain ⟨z0, z1, z2, z3, z4, _⟩ := cells5 E) | (go_at_call 12; refine (W1 _).mono ?_; rintro e w2 ⟨rfl, b2⟩; clear z0 z1 z2 z3 z4; replace E := (b2.block _ (heap_lt E)).trans E; replace B := Below.then B b2; clear b2; obtain ⟨z0, z1, z2, z3, z4, _⟩ := cells5 E) | (go_at_call 13; refine (W2 _).mono ?_; rintro e w3 ⟨rfl, b3⟩; clear z0 z1 z2 z3 z4; replace E := (b3.block _ (heap_lt E)).trans E; replace B := Below.then B b3; clear b3; obtain ⟨z0, z1, z2, z3, z4, _⟩ := cells5 E))
    clear z1 z2 z3 z4 E
    go_region_held3 (fun W => W.cell? ⟨w.heap.size, 0, none⟩ = some (.int .i64 o.name)) (exact z0) (first | (go_at_call 14; refine (P1 _).mono ?_; rintro e w4 ⟨rfl, b4⟩; replace z0 := below_cell b4 z0; (first | replace B := Below.then B b4 | replace B := Below.then B (undrew b4)); clear b4) | (go_at_call 15; refine (P2 _).mono ?_; rintro e w4 ⟨rfl, b4⟩; replace z0 := below_cell b4 z0; (first | replace B := Below.then B b4 | replace B := Below.then B (undrew b4)); clear b4))
    go_wp2
    go_ret
    exact ⟨rfl, by first | exact B | exact Go.Proofs.Ytpdemjdjgehpgaa.Below.drewN' B _⟩
end L11Encodes
end Go.Proofs.Ytpdemjdjgehpgaa
