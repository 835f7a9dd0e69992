/- Contracts of package cfi (6): what is read. -/
import Derived.Test.YtfghlfolejpjjaaCfi5
namespace Go.Proofs.Ytfghlfolejpjjaa
open Go.RowKit Go.Maps
set_option linter.unusedVariables false
attribute [local go_sem] max2_int min2_int max_two min_two
namespace Cfi
theorem underWords : Try.prog.underlying 100 = some (.map 3 34) := by kernel_rfl
theorem underU32 : Try.prog.underlying 34 = some (.int .u32) := by kernel_rfl
theorem zeroU32 (w : World) : (zeroValue 34).run Try.prog w = .ok (.int .u32 0) w := by kernel_rfl
theorem u32_wf {a : Int} (h : 0 ≤ a) (h' : a < 4294967296) : (Lit.int .u32 a).wf = true := by
  have h1 : IntKind.u32.min = 0 := rfl
  have h2 : IntKind.u32.max = 4294967295 := rfl
  simp only [Lit.wf, Bool.and_eq_true, decide_eq_true_eq]; omega
theorem ask_of {s : Cf.Fl} {at_ c : Int} (hat : (((((DataW.map [] : DataW Unit).put (.int .i64 16) (.lit (.int .u32 81))).put (.int .i64 17) (.lit (.int .u32 82))).put (.int .i64 18) (.lit (.int .u32 89))).put (.int .i64 44) (.lit (.int .u32 (s.c.wear.length : Int)))).atKey (.int .i64 at_) (.lit (.int .u32 0)) = .lit (.int .u32 c)) : c = Cf.ask s at_ := by
  have inj : ∀ {x y : Int}, (DataW.lit (.int .u32 x) : DataW Unit) = .lit (.int .u32 y) → x = y := fun e => by injection e with e; injection e with _ e
  have nk : ∀ {x y : Int}, x ≠ y → (Lit.int .i64 x) ≠ .int .i64 y := fun h e => h (by injection e with _ e)
  have i1 := (isMap_empty (H := Unit)).put (.int .i64 16) (.lit (.int .u32 81))
  have i2 := i1.put (.int .i64 17) (.lit (.int .u32 82))
  have i3 := i2.put (.int .i64 18) (.lit (.int .u32 89))
  unfold Cf.ask
  by_cases h4 : at_ = 44
  · subst h4
    rw [atKey_put_same i3 (by simp [WideAt.IsKeyLit])] at hat
    exact (inj hat).symm
  · rw [atKey_put_other (nk h4)] at hat
    by_cases h3 : at_ = 18
    · subst h3
      rw [atKey_put_same i2 (by simp [WideAt.IsKeyLit])] at hat
      exact (inj hat).symm
    · rw [atKey_put_other (nk h3)] at hat
      by_cases h2 : at_ = 17
      · subst h2
        rw [atKey_put_same i1 (by simp [WideAt.IsKeyLit])] at hat
        exact (inj hat).symm
      · rw [atKey_put_other (nk h2)] at hat
        by_cases h1 : at_ = 16
        · subst h1
          rw [atKey_put_same isMap_empty (by simp [WideAt.IsKeyLit])] at hat
          exact (inj hat).symm
        · rw [atKey_put_other (nk h1)] at hat
          rw [if_neg h1, if_neg h2, if_neg h3, if_neg h4]
          exact (inj hat).symm
section
variable {w0 w : World} {S : Nat → Prop} {gf g bw be : Nat} {s : Cf.Fl}
theorem ids_c (h : FlashX S w0 w gf g bw be s) {at_ : Int} (ha : 0 ≤ at_) (ha' : at_ < 4096) :
    Calls Try.prog 59 #[.pointer (some ⟨gf, 0, none⟩), .int .i64 at_] w fun e w' => e = .returned (.int .u32 (Cf.ids s at_)) ∧ w = w' := by
  obtain ⟨mb, jp, ⟨D, hD1, hD2, hD3⟩, hJ, c0, c1, c2, c3, c4, c5⟩ := h.cells
  obtain ⟨c, hrun, hat, hwc⟩ := World.ownsMap.lookup_int hD1 lawInt underLocks underInt (zeroInt _) (keyOf_int_mk (a := at_ / 64) underInt (WalkArith.wf_i64 (by omega)))
  have hc := look_is hD3 hat
  by_cases k0 : at_ % 64 = 0
  · have E := Lib.hid (show Cf.ids s at_ = 137 from if_pos k0)
    go_enter Try.func59, Try.ntmps59
    go_wp2
    go_ret
    exact ⟨ret_int E.out.symm, rfl⟩
  · have j0 : (at_ % 64 == 0) = false := by simpa using k0
    by_cases k1 : at_ % 64 = 1
    · have E := Lib.hid (show Cf.ids s at_ = 24 from (if_neg k0).trans (if_pos k1))
      clear k0
      go_enter Try.func59, Try.ntmps59
      go_wp2
      go_ret
      exact ⟨ret_int E.out.symm, rfl⟩
    · have j1 : (at_ % 64 == 1) = false := by simpa using k1
      by_cases k2 : at_ % 64 = 2
      · have E := Lib.hid (show Cf.ids s at_ = c from ((if_neg k0).trans ((if_neg k1).trans (if_pos k2))).trans hc.symm)
        have r0 : 0 ≤ c ∧ c ≤ 1 := by rw [hc]; split <;> decide
        obtain ⟨r1, r2⟩ := r0
        clear k0 k1 hc
        go_enter Try.func59, Try.ntmps59
        go_wp2
        go_ret
        exact ⟨ret_int E.out.symm, rfl⟩
      · have j2 : (at_ % 64 == 2) = false := by simpa using k2
        have E := Lib.hid (show Cf.ids s at_ = 0 from (if_neg k0).trans ((if_neg k1).trans (if_neg k2)))
        clear k0 k1 k2
        go_enter Try.func59, Try.ntmps59
        go_wp2
        go_ret
        exact ⟨ret_int E.out.symm, rfl⟩

set_option maxHeartbeats 2000000 in
set_option maxRecDepth 100000 in
theorem read_c (h : FlashX S w0 w gf g bw be s) {at_ : Int} : Calls Try.prog 43 #[.pointer (some ⟨gf, 0, none⟩), .int .i64 at_] w fun e w' => e = .returned (.tuple #[.int .u32 (Cf.read s at_).1, .int .i64 (Cf.read s at_).2]) ∧ Below w.heap.size w w' := by
  obtain ⟨mb, jp, hL, hJ, c0, c1, c2, c3, c4, c5⟩ := h.cells
  have hF := h
  by_cases hw : Cf.wrong s at_ = 0
  case neg =>
    have HS := Lib.hid (show Cf.read s at_ = (0, Cf.wrong s at_) from if_neg hw)
    rw [HS.out]
    generalize hn : Cf.wrong s at_ = n at hw
    have H0 := Lib.hid hn
    have ho' : (n == 0) = false := by simpa using hw
    have ho2 : (n != 0) = true := by simpa using hw
    clear hw hn HS
    go_enter Try.func43, Try.ntmps43
    go_wp2_with (go_at_call 57; refine (check_c hF at_).mono ?_; rintro e w' ⟨rfl, rfl⟩; rw [H0.out])
    go_ret2
    exact ⟨rfl, Below.refl _ _⟩
  have H0 := Lib.hid hw
  obtain ⟨ha, ha'⟩ := Cf.wrong_rng h.own.chip.ok hw
  cases hj : s.job with
  | some j =>
    have HS := Lib.hid (show Cf.read s at_ = (Cf.status s, 0) by unfold Cf.read; rw [if_pos hw]; split <;> first | rfl | (rename_i e; rw [hj] at e; cases e))
    rw [HS.out]
    rw [hj] at hJ
    obtain ⟨gj, clo, rfl, hf, hg, hc⟩ := hJ
    clear hw HS hg hc
    go_enter Try.func43, Try.ntmps43
    go_wp2_with (first | (go_at_call 57; refine (check_c hF at_).mono ?_; rintro e w' ⟨rfl, rfl⟩; rw [H0.out]) | (go_at_call 55; refine (status_c hF).mono ?_; rintro e w' ⟨rfl, rfl⟩))
    go_ret2
    exact ⟨rfl, Below.refl _ _⟩
  | none =>
    rw [hj] at hJ
    obtain rfl : jp = .pointer none := hJ
    have rd : ∀ x, (if s.mode = 0 then s.c.words.getD at_.toNat 0 else if s.mode = 2 then Cf.ids s at_ else if s.mode = 3 then Cf.ask s at_ else Cf.status s) = x → Hid (Cf.read s at_ = (x, 0)) := by
      intro x hx
      show Cf.read s at_ = (x, 0)
      unfold Cf.read; rw [if_pos hw]; split
      · rename_i e; rw [hj] at e; cases e
      · rw [hx]
    rcases (show s.mode = 0 ∨ s.mode = 1 ∨ s.mode = 2 ∨ s.mode = 3 by have := h.ok.mlo; have := h.ok.mhi; omega) with m | m | m | m
    · have HS := rd _ (if_pos m)
      have HR : Hid (Nr.reads s.c at_ = (s.c.words.getD at_.toNat 0, 0)) := by
        show Nr.reads s.c at_ = _
        have : Nr.wrong s.c at_ ((s.c.wear.length : Int) * 64) = 0 := hw
        unfold Nr.reads; rw [this, if_pos rfl]
      rw [HS.out]
      rw [m] at c1
      clear hw HS
      have hO := h.own
      go_enter Try.func43, Try.ntmps43
      go_wp2_with (first | (go_at_call 57; refine (check_c hF at_).mono ?_; rintro e w' ⟨rfl, rfl⟩; rw [H0.out]) | (go_at_call 58; refine (Nor.read_o hO HR).mono ?_; rintro e w' ⟨rfl, rfl⟩))
      go_ret2
      exact ⟨rfl, Below.refl _ _⟩
    · have HS := rd _ ((if_neg (by omega)).trans ((if_neg (by omega)).trans (if_neg (by omega))))
      rw [HS.out]
      rw [m] at c1
      clear hw HS
      go_enter Try.func43, Try.ntmps43
      go_wp2_with (first | (go_at_call 57; refine (check_c hF at_).mono ?_; rintro e w' ⟨rfl, rfl⟩; rw [H0.out]) | (go_at_call 55; refine (status_c hF).mono ?_; rintro e w' ⟨rfl, rfl⟩))
      go_ret2
      exact ⟨rfl, Below.refl _ _⟩
    · have HS := rd _ ((if_neg (by omega)).trans (if_pos m))
      rw [HS.out]
      rw [m] at c1
      clear hw HS
      go_enter Try.func43, Try.ntmps43
      go_wp2_with (first | (go_at_call 57; refine (check_c hF at_).mono ?_; rintro e w' ⟨rfl, rfl⟩; rw [H0.out]) | (go_at_call 59; refine (ids_c hF ha ha').mono ?_; rintro e w' ⟨rfl, rfl⟩))
      go_ret2
      exact ⟨rfl, Below.refl _ _⟩
    · have HS := rd _ ((if_neg (by omega)).trans ((if_neg (by omega)).trans (if_pos m)))
      rw [HS.out]
      rw [m] at c1
      clear hw HS
      have hU := h.own.chip
      have hmm := @run_makeMap Try.prog
      have s2 : (s.c.wear.length : Int) ≤ 64 := by have := h.own.chip.ok.most; omega
      have z : ∀ a : Int, -4096 ≤ a → a < 4096 → keyOf Try.prog 3 (.int .i64 a) = some (.int .i64 a) := fun a h1 h2 => keyOf_int_mk underInt (WalkArith.wf_i64 (by omega))
      have pe : ∀ a : Int, 0 ≤ a → a < 4294967296 → plainElem (H := Unit) Try.prog 34 (.int .u32 a) = some (.lit (.int .u32 a), []) := fun a h1 h2 => plainElem_int underU32 (u32_wf h1 h2)
      obtain ⟨w1, r1, o1, g1⟩ := (World.ownsMap_made (H := Unit) w Try.prog 3 (plainElem Try.prog 34)).update lawInt underWords (by decide) (z 16 (by decide) (by decide)) (pe 81 (by decide) (by decide))
      obtain ⟨w2, r2, o2, g2⟩ := o1.update lawInt underWords (by decide) (z 17 (by decide) (by decide)) (pe 82 (by decide) (by decide))
      obtain ⟨w3, r3, o3, g3⟩ := o2.update lawInt underWords (by decide) (z 18 (by decide) (by decide)) (pe 89 (by decide) (by decide))
      obtain ⟨w4, r4, o4, g4⟩ := o3.update lawInt underWords (by decide) (z 44 (by decide) (by decide)) (pe (s.c.wear.length : Int) (by omega) (by omega))
      have B0 := (Below.refl _ w).alloc (Nat.le_refl _) (.map #[] 0)
      have B1 := B0.grown g1 B0.size (by intro k hk; cases hk; exact Nat.le_refl _)
      have B2 := B1.grown g2 B1.size (by intro k hk; cases hk; exact Nat.le_refl _)
      have B3 := B2.grown g3 B2.size (by intro k hk; cases hk; exact Nat.le_refl _)
      have B4 := B3.grown g4 B3.size (by intro k hk; cases hk; exact Nat.le_refl _)
      have hF3 := h.then B3
      have hU3 := hF3.own.chip
      obtain ⟨mb3, jp3, _, _, d0, _, _, _, _, _⟩ := hF3.cells
      obtain ⟨c, hrun, hat, hwc⟩ := o4.lookup_int lawInt underWords underU32 (zeroU32 _) (z at_ (by omega) (by omega))
      have hc := ask_of hat
      clear hat hwc o1 o2 o3 o4
      go_enter Try.func43, Try.ntmps43
      go_wp2_with (first | (go_at_call 57; refine (check_c hF at_).mono ?_; rintro e w' ⟨rfl, rfl⟩; rw [H0.out]) | (go_at_call 41; first | (with_reducible refine (Nor.blocks_c hU3).mono ?_; rintro e w' ⟨rfl, rfl⟩) | (refine (Nor.blocks_c hU).mono ?_; rintro e w' ⟨rfl, rfl⟩)))
      go_ret2
      exact ⟨rfl, B4⟩
end
end Cfi
end Go.Proofs.Ytfghlfolejpjjaa
