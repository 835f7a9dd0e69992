/- CfiModes: in each mode there is to read what belongs to it, at each place. No condition. -/
import Derived.Test.YtcpcnkmhhmccdaaLive3
import Derived.Test.YtcpcnkmhhmccdaaCfLaws2
import Derived.Test.YtcpcnkmhhmccdaaArgs
namespace Go.Proofs.Ytcpcnkmhhmccdaa
open Go.RowKit Go.Maps
set_option linter.unusedVariables false
attribute [local go_sem] max2_int min2_int max_two min_two
namespace L03Modes
theorem inj {x y : Int} (e : (DataW.lit (.int .u32 x) : DataW Unit) = .lit (.int .u32 y)) : x = y := by injection e with e; injection e with _ e
theorem nk {x y : Int} (h : x ≠ y) : (Lit.int .i64 x) ≠ .int .i64 y := fun e => h (by injection e with _ e)
theorem id_of {a c : Int} (hat : (((DataW.map [] : DataW Unit).put (.int .i64 0) (.lit (.int .u32 137))).put (.int .i64 1) (.lit (.int .u32 24))).atKey (.int .i64 a) (.lit (.int .u32 0)) = .lit (.int .u32 c)) : c = if a = 0 then 137 else if a = 1 then 24 else 0 := by
  have i1 := (isMap_empty (H := Unit)).put (.int .i64 0) (.lit (.int .u32 137))
  by_cases h2 : a = 1
  · subst h2
    rw [atKey_put_same i1 (by simp [WideAt.IsKeyLit])] at hat
    exact (inj hat).symm
  · rw [atKey_put_other (nk h2)] at hat
    by_cases h1 : a = 0
    · subst h1
      rw [atKey_put_same isMap_empty (by simp [WideAt.IsKeyLit])] at hat
      exact (inj hat).symm
    · rw [atKey_put_other (nk h1)] at hat
      rw [if_neg h1, if_neg h2]
      exact (inj hat).symm
theorem query_of {at_ c : Int} (hat : (((((DataW.map [] : DataW Unit).put (.int .i64 16) (.lit (.int .u32 81))).put (.int .i64 17) (.lit (.int .u32 82))).put (.int .i64 18) (.lit (.int .u32 89))).put (.int .i64 44) (.lit (.int .u32 3))).atKey (.int .i64 at_) (.lit (.int .u32 0)) = .lit (.int .u32 c)) :
    c = if at_ = 16 then 81 else if at_ = 17 then 82 else if at_ = 18 then 89 else if at_ = 44 then 3 else 0 := by
  have i1 := (isMap_empty (H := Unit)).put (.int .i64 16) (.lit (.int .u32 81))
  have i2 := i1.put (.int .i64 17) (.lit (.int .u32 82))
  have i3 := i2.put (.int .i64 18) (.lit (.int .u32 89))
  by_cases h4 : at_ = 44
  · subst h4
    rw [atKey_put_same i3 (by simp [WideAt.IsKeyLit])] at hat
    exact (inj hat).symm
  · rw [atKey_put_other (nk h4)] at hat
    by_cases h3 : at_ = 18
    · subst h3
      rw [atKey_put_same i2 (by simp [WideAt.IsKeyLit])] at hat
      exact (inj hat).symm
    · rw [atKey_put_other (nk h3)] at hat
      by_cases h2 : at_ = 17
      · subst h2
        rw [atKey_put_same i1 (by simp [WideAt.IsKeyLit])] at hat
        exact (inj hat).symm
      · rw [atKey_put_other (nk h2)] at hat
        by_cases h1 : at_ = 16
        · subst h1
          rw [atKey_put_same isMap_empty (by simp [WideAt.IsKeyLit])] at hat
          exact (inj hat).symm
        · rw [atKey_put_other (nk h1)] at hat
          rw [if_neg h1, if_neg h2, if_neg h3, if_neg h4]
          exact (inj hat).symm
/-- The two maps that the law makes, laid ahead as equations. -/
theorem maps_made (w : World) (k : Nat) (hk : k < 192) : ∃ u2 u6 : World, ∃ u1 u3 u4 u5 : World, (Instr.mapUpdate 33 (.map (some w.heap.size)) (.int .i64 0) (.int .u32 137)).run Try.prog (w.alloc (.map #[] 0)) = .ok () u1 ∧ (Instr.mapUpdate 33 (.map (some w.heap.size)) (.int .i64 1) (.int .u32 24)).run Try.prog u1 = .ok () u2 ∧
    (Instr.lookup 33 (.map (some w.heap.size)) (.int .i64 ((k : Int) % 64)) false).run Try.prog u2 = .ok (.int .u32 (if (k : Int) % 64 = 0 then 137 else if (k : Int) % 64 = 1 then 24 else 0)) u2 ∧
    ((Instr.mapUpdate 33 (.map (some u2.heap.size)) (.int .i64 16) (.int .u32 81)).run Try.prog (u2.alloc (.map #[] 0)) = .ok () u3 ∧ (Instr.mapUpdate 33 (.map (some u2.heap.size)) (.int .i64 17) (.int .u32 82)).run Try.prog u3 = .ok () u4 ∧ (Instr.mapUpdate 33 (.map (some u2.heap.size)) (.int .i64 18) (.int .u32 89)).run Try.prog u4 = .ok () u5) ∧
    (Instr.mapUpdate 33 (.map (some u2.heap.size)) (.int .i64 44) (.int .u32 3)).run Try.prog u5 = .ok () u6 ∧
    (Instr.lookup 33 (.map (some u2.heap.size)) (.int .i64 (k : Int)) false).run Try.prog u6 = .ok (.int .u32 (if (k : Int) = 16 then 81 else if (k : Int) = 17 then 82 else if (k : Int) = 18 then 89 else if (k : Int) = 44 then 3 else 0)) u6 ∧ Below w.heap.size w u6 := by
  have z : ∀ a : Int, -4096 ≤ a → a < 4096 → keyOf Try.prog 3 (.int .i64 a) = some (.int .i64 a) := fun a h1 h2 => keyOf_int_mk underInt (WalkArith.wf_i64 (by omega))
  have pe : ∀ a : Int, 0 ≤ a → a < 4294967296 → plainElem (H := Unit) Try.prog 23 (.int .u32 a) = some (.lit (.int .u32 a), []) := fun a h1 h2 => plainElem_int Cfi.underU32 (Cfi.u32_wf h1 h2)
  obtain ⟨u1, r1, o1, g1⟩ := (World.ownsMap_made (H := Unit) w Try.prog 3 (plainElem Try.prog 23)).update lawInt Cfi.underWords (by decide) (z 0 (by decide) (by decide)) (pe 137 (by decide) (by decide))
  obtain ⟨u2, r2, o2, g2⟩ := o1.update lawInt Cfi.underWords (by decide) (z 1 (by decide) (by decide)) (pe 24 (by decide) (by decide))
  obtain ⟨c, hrun, hat, _⟩ := o2.lookup_int lawInt Cfi.underWords Cfi.underU32 (Cfi.zeroU32 _) (z ((k : Int) % 64) (by omega) (by omega))
  rw [id_of hat] at hrun
  obtain ⟨u3, r3, o3, g3⟩ := (World.ownsMap_made (H := Unit) u2 Try.prog 3 (plainElem Try.prog 23)).update lawInt Cfi.underWords (by decide) (z 16 (by decide) (by decide)) (pe 81 (by decide) (by decide))
  obtain ⟨u4, r4, o4, g4⟩ := o3.update lawInt Cfi.underWords (by decide) (z 17 (by decide) (by decide)) (pe 82 (by decide) (by decide))
  obtain ⟨u5, r5, o5, g5⟩ := o4.update lawInt Cfi.underWords (by decide) (z 18 (by decide) (by decide)) (pe 89 (by decide) (by decide))
  obtain ⟨u6, r6, o6, g6⟩ := o5.update lawInt Cfi.underWords (by decide) (z 44 (by decide) (by decide)) (pe 3 (by decide) (by decide))
  obtain ⟨c', hrun', hat', _⟩ := o6.lookup_int lawInt Cfi.underWords Cfi.underU32 (Cfi.zeroU32 _) (z (k : Int) (by omega) (by omega))
  rw [query_of hat'] at hrun'
  have B0 := (Below.refl _ w).alloc (Nat.le_refl _) (.map #[] 0)
  have B1 := B0.grown g1 B0.size (by intro k hk; cases hk; exact Nat.le_refl _)
  have B2 := B1.grown g2 B1.size (by intro k hk; cases hk; exact Nat.le_refl _)
  have C0 := B2.alloc B2.size (.map #[] 0)
  have C1 := C0.grown g3 C0.size (by intro k hk; cases hk; exact B2.size)
  have C2 := C1.grown g4 C1.size (by intro k hk; cases hk; exact B2.size)
  have C3 := C2.grown g5 C2.size (by intro k hk; cases hk; exact B2.size)
  have C4 := C3.grown g6 C3.size (by intro k hk; cases hk; exact B2.size)
  exact ⟨u2, u6, u1, u3, u4, u5, r1, r2, hrun, ⟨r3, r4, r5⟩, r6, hrun', C4⟩
set_option maxHeartbeats 4000000 in
set_option maxRecDepth 100000 in
theorem CfiModes_c (a0 : Int) (a1 : Int) (w : World) (w0 : (Lit.int .u16 a0).wf = true) (w1 : (Lit.int .u32 a1).wf = true) :
    Calls Try.prog 3 #[.int .u16 a0, .int .u32 a1] w fun e w' => e = .returned (.bool true) ∧ Below w.heap.size w w' := by
  obtain ⟨r0, r0'⟩ := wf_u16 w0
  obtain ⟨r1, r1'⟩ := wf_u32 w1
  clear w0 w1
  obtain ⟨k, hk, hkk⟩ : ∃ k : Nat, k < 192 ∧ a0 % 192 = k := ⟨(a0 % 192).toNat, by omega, by omega⟩
  have hkk2 : a0.tmod 192 = k := (Int.tmod_eq_emod_of_nonneg r0).trans hkk
  have hk3 : (k : Int) < 192 := by omega
  obtain ⟨s0, s1, s2, s3, s4, c1, x, y, H0, hj, H1, H2, H3, H4, H5, H6, H7, H8, H9, hx, hy⟩ := Cf.modes_chain hk r1 r1'
  have HX := Lib.hid hx
  have HY := Lib.hid hy
  clear hx hy
  have hmm := @run_makeMap Try.prog
  go_enter Try.func3, Try.ntmps3
  go_wp2_with (first | (go_at_call 10; refine (Cfi.alive_c _).mono ?_; rintro e w1 ⟨rfl, b1⟩) | (go_at_call 11; refine (Cfi.begin_o b1 (n := 3) (endure := 5) (by decide) (by decide) (by decide) (Lib.hid (by decide)) H0).mono ?_; rintro e w2 ⟨g, bw, be, gf, rfl, h1⟩) | (go_at_call 12; refine (Nor.program_k h1.own r1 r1' H1).mono ?_; rintro e w3 ⟨rfl, hO, hK⟩; have h2 := h1.chip hO hK (fun j e => by rw [hj] at e; cases e); rw [H2.out] at h2; clear h1 hO) | (go_at_call 13; refine (Cfi.read_o h2 H3).mono ?_; rintro e w4 ⟨rfl, h3, _⟩; clear h2) | (go_at_call 14; refine (Cfi.write_o h3 (by decide) (by decide) H4).mono ?_; rintro e w5 ⟨rfl, h4, _⟩; clear h3) | (go_at_call 13; refine (Cfi.read_o h4 H5).mono ?_; rintro e w6 ⟨rfl, h5, _⟩; clear h4) | (go_at_call 14; refine (Cfi.write_o h5 (by decide) (by decide) H6).mono ?_; rintro e w6 ⟨rfl, h6, _⟩; clear h5) | (go_at_call 13; refine (Cfi.read_o h6 H7).mono ?_; rintro e w6 ⟨rfl, h7, _⟩; clear h6) | (go_at_call 14; refine (Cfi.write_o h7 (by decide) (by decide) H8).mono ?_; rintro e w6 ⟨rfl, h8, _⟩; clear h7) | (go_at_call 13; refine (Cfi.read_o h8 H9).mono ?_; rintro e w9 ⟨rfl, h9, _⟩; clear h8; obtain ⟨u2, u6, u1, u3, u4, u5, U1, U2, U3, ⟨U4, U5, U6⟩, U7, U8, U9⟩ := maps_made w9 k hk; rw [← HX.out] at U3; rw [← HY.out] at U8))
  all_goals (
    go_ret
    exact ⟨rfl, Below.then h9.own.below U9⟩)
end L03Modes
end Go.Proofs.Ytcpcnkmhhmccdaa
