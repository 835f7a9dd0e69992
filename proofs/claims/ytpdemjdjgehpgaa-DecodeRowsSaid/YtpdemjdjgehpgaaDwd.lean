/- Contract of decode.Word. -/
import Derived.Test.YtpdemjdjgehpgaaDop
namespace Go.Proofs.Ytpdemjdjgehpgaa
open Go.RowKit Dc
set_option linter.unusedVariables false
namespace Dec
def opv (o : Dc.Op) : Value := .agg #[.int .i64 o.name, .int .i64 o.rd, .int .i64 o.r1, .int .i64 o.r2, .int .u32 o.imm]
def wordv : Option Dc.Op → Value
  | some o => .tuple #[opv o, .bool true]
  | none => .tuple #[opv Dc.Op.z, .bool false]
theorem ps4 : ∀ c ∈ letters, (frm c).ps.length ≤ 4 := by decide
theorem cells2 {w : World} {b : Nat} {c0 c1 : Value} {t : TypeId} (h : w.heap[b]? = some (.cells #[c0, c1] t (0, 0))) : w.cell? ⟨b, 0, none⟩ = some c0 ∧ w.cell? ⟨b, 1, none⟩ = some c1 := by
  simp only [World.cell?, h]
  simp
theorem op_o {f : Frm} {a : Option Addr} {n cap : Nat} {x : Int} {w : World} {oo : Dc.Op} (k : Int) (ho : Hid (opOf f k x = oo)) (hx : 0 ≤ x) (hx' : x < 4294967296) (hn : n ≤ 4) (hp : Ps w a n f.ps) :
    Calls Try.prog 20 #[fv f a n cap, .int .i64 k, .int .u32 x] w fun e w' => e = .returned (opv oo) ∧ Below w.heap.size w w' := by
  rw [← ho.out]
  exact op_c f a n cap k x w hx hx' hn hp
set_option maxHeartbeats 2000000 in
set_option maxRecDepth 100000 in
theorem word_r (x : Int) (w : World) (hx : 0 ≤ x) (hx' : x < 4294967296) (rs : Option Dc.Op) (hrs : Hid (word x = rs)) :
    Calls Try.prog 10 #[.int .u32 x] w fun e w' => e = .returned (wordv rs) ∧ Below w.heap.size w w' := by
  go_enter Try.func10, Try.ntmps10
  go_wp2_with (go_at_call 18; refine (rows_c _).mono ?_; rintro e w1 ⟨g, rfl, R, b1⟩)
  obtain ⟨E, b2⟩ := alloc1_then b1
  clear b1
  go_loopw [9] (fun iv wr => ∃ j : Nat, j ≤ 69 ∧ iv = .int .i64 j ∧ Below w1.heap.size w1 wr ∧ Hid (wordFrom (rows.drop j) j x = rs)) (fun i _ => 69 - (intOf i).toNat)
  case atStart => exact ⟨0, by omega, rfl, Below.refl _ _, hrs⟩
  case round =>
    obtain ⟨j, hj, rfl, hB, hE⟩ := hrel
    by_cases hlt : j < 69
    · have hlt2 : (j : Int) < 69 := by omega
      obtain ⟨c0, c1⟩ := (R.below hB) j hlt
      have hE2 := hE.out
      rw [wordFrom_drop j hlt] at hE2
      have hlet := row_letter j hlt
      generalize row j = r at *
      obtain ⟨pt, lt⟩ := r
      dsimp only at c0 c1 hlet
      have SC := shape_c lt hlet
      have h4 := ps4 lt hlet
      by_cases hh : hit (pt, lt) x = true
      · rw [if_pos hh] at hE2
        unfold hit at hh
        dsimp only at hE2 hh
        clear hE
        generalize frm lt = f at *
        obtain ⟨oo, hoo⟩ : ∃ oo, Hid (opOf f ((j : Int) + 1) x = oo) := ⟨_, rfl⟩
        have hon : opOf f ((j + 1 : Nat) : Int) x = oo := by rw [← hoo.out]; congr 1
        rw [hon] at hE2
        subst hE2
        go_wp2_with (first | (go_at_call 19; refine (SC _).mono ?_; rintro e w3 ⟨a, n, cap, rfl, P, b3⟩; obtain ⟨E3, b4⟩ := alloc1_then b3; clear b3; obtain ⟨y0, y1⟩ := cells2 E3; have Y0 := fun o => Lib.cell?_alloc_some o y0; have Y1 := fun o => Lib.cell?_alloc_some o y1; unfold fv) | (go_at_call 20; refine (op_o _ hoo hx hx' (by have := P.len; omega) (P.below (alloc1_below _ _))).mono ?_; rintro e w4 ⟨rfl, b5⟩; unfold opv; have B4 := Below.then (below_al (Below.then hB b4) _) b5; have E4 := (B4.block _ (heap_lt E)).trans E; obtain ⟨z0, z1, z2, z3, z4, zf⟩ := cells5 E4))
        have hz := set5 E4 (.int .i64 oo.name) (.int .i64 oo.rd) (.int .i64 oo.r1) (.int .i64 oo.r2) (.int .u32 oo.imm)
        have hb := set5_below (Below.then b2 B4) (Nat.le_refl w.heap.size) (.int .i64 oo.name) (.int .i64 oo.rd) (.int .i64 oo.r1) (.int .i64 oo.r2) (.int .u32 oo.imm)
        generalize (((((w4.setCell ⟨w.heap.size, 0, none⟩ (.int .i64 oo.name)).setCell ⟨w.heap.size, 1, none⟩ (.int .i64 oo.rd)).setCell ⟨w.heap.size, 2, none⟩ (.int .i64 oo.r1)).setCell ⟨w.heap.size, 3, none⟩ (.int .i64 oo.r2)).setCell ⟨w.heap.size, 4, none⟩ (.int .u32 oo.imm)) = WW at *
        clear z0 z1 z2 z3 z4 zf
        obtain ⟨z0, z1, z2, z3, z4, _⟩ := cells5 hz
        refine bodyPost_ret (v := wordv (some oo)) ?_ rfl ⟨rfl, hb⟩
        simp [results, Try.results10, go_sem, z0, z1, z2, z3, z4, wordv, opv, Dc.Op.z]
      · rw [if_neg hh] at hE2
        unfold hit at hh
        dsimp only at hE2 hh
        have hh2 := Bool.eq_false_iff.2 hh
        have hE3 := Lib.hid hE2
        clear hE hE2 hh
        generalize frm lt = f at *
        go_wp2_with (go_at_call 19; refine (SC _).mono ?_; rintro e w3 ⟨a, n, cap, rfl, P, b3⟩; obtain ⟨E3, b4⟩ := alloc1_then b3; clear b3; obtain ⟨y0, y1⟩ := cells2 E3; have Y0 := fun o => Lib.cell?_alloc_some o y0; have Y1 := fun o => Lib.cell?_alloc_some o y1; unfold fv)
        go_roundw
        case rel => exact ⟨j + 1, by omega, by go_num, below_al (Below.then hB b4) _, hE3⟩
        case measure => simp [intOf]; omega
    · obtain rfl : j = 69 := by omega
      have hE2 : none = rs := hE.out
      subst hE2
      have E4 := (hB.block _ (heap_lt E)).trans E
      obtain ⟨z0, z1, z2, z3, z4, zf⟩ := cells5 E4
      have hlt2 : ¬ ((69 : Nat) : Int) < 69 := by omega
      go_wp2
      · have hz := set5 E4 (.int .i64 0) (.int .i64 0) (.int .i64 0) (.int .i64 0) (.int .u32 0)
        have hb := set5_below (Below.then b2 hB) (Nat.le_refl w.heap.size) (.int .i64 0) (.int .i64 0) (.int .i64 0) (.int .i64 0) (.int .u32 0)
        generalize (((((wr.setCell ⟨w.heap.size, 0, none⟩ (.int .i64 0)).setCell ⟨w.heap.size, 1, none⟩ (.int .i64 0)).setCell ⟨w.heap.size, 2, none⟩ (.int .i64 0)).setCell ⟨w.heap.size, 3, none⟩ (.int .i64 0)).setCell ⟨w.heap.size, 4, none⟩ (.int .u32 0)) = WW at *
        clear z0 z1 z2 z3 z4 zf
        obtain ⟨z0, z1, z2, z3, z4, _⟩ := cells5 hz
        refine bodyPost_ret (v := wordv none) ?_ rfl ⟨rfl, hb⟩
        simp [results, Try.results10, go_sem, z0, z1, z2, z3, z4, wordv, opv, Dc.Op.z]

end Dec
end Go.Proofs.Ytpdemjdjgehpgaa
