/- Contracts of package cfi (2): what belongs to a command. -/
import Derived.Test.YtfghlfolejpjjaaCfi
namespace Go.Proofs.Ytfghlfolejpjjaa
open Go.RowKit Go.Maps
set_option linter.unusedVariables false
attribute [local go_sem] max2_int min2_int max_two min_two
namespace Cfi
theorem look_is {D : DataW Unit} {L : Int → Bool} (h : ∀ b : Int, D.atKey (.int .i64 b) (.lit (.int .i64 0)) = .lit (.int .i64 (if L b then 1 else 0))) {b c : Int} (hat : D.atKey (.int .i64 b) (.lit (.int .i64 0)) = .lit (.int .i64 c)) : c = if L b then 1 else 0 := by
  have := (h b).symm.trans hat
  injection this with h1
  injection h1 with _ h2
  exact h2.symm
theorem look_run {W : World} {mb : Nat} {D : DataW Unit} {L : Int → Bool} (hD : W.ownsMap Try.prog 3 (plainElem Try.prog 3) mb 64 D) (h : ∀ b : Int, D.atKey (.int .i64 b) (.lit (.int .i64 0)) = .lit (.int .i64 (if L b then 1 else 0)))
    {b : Int} (hb : 0 ≤ b) (hb' : b < 4096) (n : Nat) : (Instr.lookup 92 (.map (some mb)) (.int .i64 b) false).run Try.prog (W.drewN n) = .ok (.int .i64 (if L b then 1 else 0)) (W.drewN n) := by
  obtain ⟨c, hr, hat, _⟩ := World.ownsMap.lookup_int (w := W.drewN n) hD lawInt underLocks underInt (zeroInt _) (keyOf_int_mk (a := b) underInt (WalkArith.wf_i64 (by omega)))
  rw [look_is h hat] at hr
  exact hr
theorem Locks.alloc {w : World} {mb : Nat} {L : Int → Bool} (h : Locks w mb L) (o : Obj) : Locks (w.alloc o) mb L := h.kept (Below.heap_alloc _ _ _ h.lt)
theorem locks_put {w : World} {mb n : Nat} {D : DataW Unit} {L : Int → Bool} {k : Int} (h : w.ownsMap Try.prog 3 (plainElem Try.prog 3) mb n (D.put (.int .i64 k) (.lit (.int .i64 1)))) (hT : IsMap D) (hk : KeysIn 64 D) (h3 : ∀ b : Int, D.atKey (.int .i64 b) (.lit (.int .i64 0)) = .lit (.int .i64 (if L b then 1 else 0)))
    (h0 : 0 ≤ k) (h1 : k < 64) : Locks w mb (Cf.upd L k true) := by
  refine ⟨_, tighten h (hk.put h0 (by omega) _), hk.put h0 (by omega) _, fun b => ?_⟩
  unfold Cf.upd
  by_cases e : b = k
  · subst e; rw [atKey_put_same hT (by simp [WideAt.IsKeyLit]), if_pos rfl]; rfl
  · rw [atKey_put_other (by intro e'; injection e' with _ e'; exact e e'), h3, if_neg e]
theorem locks_del {w : World} {mb n : Nat} {D : DataW Unit} {L : Int → Bool} {k : Int} (h : w.ownsMap Try.prog 3 (plainElem Try.prog 3) mb n (D.del (.int .i64 k))) (hk : KeysIn 64 D) (h3 : ∀ b : Int, D.atKey (.int .i64 b) (.lit (.int .i64 0)) = .lit (.int .i64 (if L b then 1 else 0))) : Locks w mb (Cf.upd L k false) := by
  refine ⟨_, tighten h (hk.del _), hk.del _, fun b => ?_⟩
  unfold Cf.upd
  by_cases e : b = k
  · subst e; rw [atKey_del_same, if_pos rfl]; rfl
  · rw [atKey_del_other (by intro e'; injection e' with _ e'; exact e e'), h3, if_neg e]
section
variable {w0 w : World} {S : Nat → Prop} {gf g bw be : Nat} {s : Cf.Fl}
set_option maxHeartbeats 1000000 in
theorem program_c (h : FlashX S w0 w gf g bw be s) {at_ v : Int} (ha : 0 ≤ at_) (ha' : at_ < 4096) (hv : 0 ≤ v) (hv' : v < 4294967296) :
    Calls Try.prog 74 #[.pointer (some ⟨gf, 0, none⟩), .int .i64 at_, .int .u32 v] w fun e w' => e = .returned (.tuple #[]) ∧ FlashX (Sx S w w') w0 w' gf g bw be (Cf.prog1 s at_ v) ∧ Keep (· = gf) w w' := by
  have hmf := @makeFunc_run Try.prog
  have hF := (((h.then ((Below.refl _ w).alloc (Nat.le_refl _) (.cells #[.pointer (some ⟨gf, 0, none⟩)] 40))).then ((Below.refl _ _).alloc (Nat.le_refl _) (.cells #[.int .i64 at_] 3))).then ((Below.refl _ _).alloc (Nat.le_refl _) (.cells #[.int .u32 v] 34)))
  obtain ⟨mb, jp, ⟨D, hD1, hD2, hD3⟩, hJ, c0, c1, c2, c3, c4, c5⟩ := hF.cells
  have f5 := hF.free 5
  have hrun : ∀ n, (Instr.lookup 92 (.map (some mb)) (.int .i64 (at_ / 64)) false).run Try.prog ((((w.alloc (.cells #[.pointer (some ⟨gf, 0, none⟩)] 40)).alloc (.cells #[.int .i64 at_] 3)).alloc (.cells #[.int .u32 v] 34)).drewN n) = .ok (.int .i64 (if s.locks (at_ / 64) then 1 else 0)) ((((w.alloc (.cells #[.pointer (some ⟨gf, 0, none⟩)] 40)).alloc (.cells #[.int .i64 at_] 3)).alloc (.cells #[.int .u32 v] 34)).drewN n) := look_run hD1 hD3 (by omega) (by omega)
  have b0 : (((w.alloc (.cells #[.pointer (some ⟨gf, 0, none⟩)] 40)).alloc (.cells #[.int .i64 at_] 3)).alloc (.cells #[.int .u32 v] 34)).cell? ⟨w.heap.size, 0, none⟩ = some (.pointer (some ⟨gf, 0, none⟩)) := Lib.cell?_alloc_some _ (Lib.cell?_alloc_some _ (World.cell?_alloc_mark w #[.pointer (some ⟨gf, 0, none⟩)] 40 (0, 0) 0))
  have b1 : (((w.alloc (.cells #[.pointer (some ⟨gf, 0, none⟩)] 40)).alloc (.cells #[.int .i64 at_] 3)).alloc (.cells #[.int .u32 v] 34)).cell? ⟨w.heap.size + 1, 0, none⟩ = some (.int .i64 at_) := Lib.cell?_alloc_some _ (by
    have := World.cell?_alloc_mark (w.alloc (.cells #[.pointer (some ⟨gf, 0, none⟩)] 40)) #[.int .i64 at_] 3 (0, 0) 0
    rw [show (w.alloc (.cells #[.pointer (some ⟨gf, 0, none⟩)] 40)).heap.size = w.heap.size + 1 by simp] at this
    exact this)
  have b2 : (((w.alloc (.cells #[.pointer (some ⟨gf, 0, none⟩)] 40)).alloc (.cells #[.int .i64 at_] 3)).alloc (.cells #[.int .u32 v] 34)).cell? ⟨w.heap.size + 1 + 1, 0, none⟩ = some (.int .u32 v) := by
    have := World.cell?_alloc_mark ((w.alloc (.cells #[.pointer (some ⟨gf, 0, none⟩)] 40)).alloc (.cells #[.int .i64 at_] 3)) #[.int .u32 v] 34 (0, 0) 0
    rw [show ((w.alloc (.cells #[.pointer (some ⟨gf, 0, none⟩)] 40)).alloc (.cells #[.int .i64 at_] 3)).heap.size = w.heap.size + 1 + 1 by simp] at this
    exact this
  have K0 := (((Keep.refl (fun x => x = gf) w).alloc (.cells #[.pointer (some ⟨gf, 0, none⟩)] 40)).alloc (.cells #[.int .i64 at_] 3)).alloc (.cells #[.int .u32 v] 34)
  by_cases hl : s.locks (at_ / 64) = true
  · rw [hl] at hrun
    simp only [if_true] at hrun
    go_enter Try.func74, Try.ntmps74
    go_wp2
    go_quiet (fail)
    go_wp2_with (go_at_call 67; refine (set_c (hF.drewN nq) (b := 18) (by decide) (by decide)).mono ?_; rintro e w' ⟨rfl, p1, p2⟩)
    (try simp only [Exit.inBlock, Exit.then])
    refine bodyPost_ret (results_none rfl _ _ _) rfl ?_
    refine ⟨rfl, ?_, (K0.drewN nq).trans p2⟩
    rw [show Cf.prog1 s at_ v = Cf.setE s 18 from if_pos hl]
    exact p1.up h.old
  · have hl' : s.locks (at_ / 64) = false := by simpa using hl
    rw [hl'] at hrun
    simp only [Bool.false_eq_true, if_false] at hrun
    go_enter Try.func74, Try.ntmps74
    go_wp2
    go_quiet (fail)
    have hF2 := (hF.drewN nq).then ((Below.refl _ _).alloc (Nat.le_refl _) (.cells #[.int .i64 3, .func (.func 86) #[] #[.pointer (some ⟨w.heap.size, 0, none⟩), .pointer (some ⟨w.heap.size + 1, 0, none⟩), .pointer (some ⟨w.heap.size + 1 + 1, 0, none⟩)]] 110))
    obtain ⟨mb2, jp2, _, _, _, _, _, _, _, d5⟩ := hF2.cells
    have g5 := hF2.free 5
    go_wp2
    go_end0
    refine ⟨rfl, ?_, ((K0.drewN nq).alloc _).setCell (p := ⟨gf, 5, none⟩) (.inl rfl) _⟩
    rw [show Cf.prog1 s at_ v = { s with job := some ⟨3, true, at_, v⟩ } from if_neg hl]
    have fr : ∀ k, w.heap.size ≤ k → ¬ S k := fun k hk hs => absurd (h.hi k hs) (by omega)
    have bl := h.old
    refine hF2.setJob (S' := Sx S w _) (fun k hk => .inl hk) (fun k hk => hk.elim (fun e => ⟨h.lo k e, hF2.hi k e⟩) (fun e => ⟨by omega, by have := e.2; simpa [World.setCell] using this⟩)) (fun F hFF => ⟨w.heap.size + 1 + 1 + 1, _, rfl, hFF _ (.inr ⟨by omega, by simp [World.setCell]⟩) (fr _ (by omega)), ?_, .inl ⟨rfl, w.heap.size, w.heap.size + 1, w.heap.size + 1 + 1, hFF _ (.inr ⟨by omega, by simp [World.setCell]; try omega⟩) (fr _ (by omega)), hFF _ (.inr ⟨by omega, by simp [World.setCell]; try omega⟩) (fr _ (by omega)), hFF _ (.inr ⟨by omega, by simp [World.setCell]⟩) (fr _ (by omega)), by omega, by omega, by omega, rfl, Lib.cell?_alloc_some _ b0, Lib.cell?_alloc_some _ b1, Lib.cell?_alloc_some _ b2⟩⟩)
      (fun j hj => by cases hj; exact ⟨by show (0 : Int) ≤ 3; decide, by show (3 : Int) ≤ 20; decide, hv, hv'⟩)
    have e : (((((w.alloc (.cells #[.pointer (some ⟨gf, 0, none⟩)] 40)).alloc (.cells #[.int .i64 at_] 3)).alloc (.cells #[.int .u32 v] 34))).drewN nq).heap.size = w.heap.size + 1 + 1 + 1 := by simp
    have := heap_alloc_new (((((w.alloc (.cells #[.pointer (some ⟨gf, 0, none⟩)] 40)).alloc (.cells #[.int .i64 at_] 3)).alloc (.cells #[.int .u32 v] 34))).drewN nq) (.cells #[.int .i64 3, .func (.func 86) #[] #[.pointer (some ⟨w.heap.size, 0, none⟩), .pointer (some ⟨w.heap.size + 1, 0, none⟩), .pointer (some ⟨w.heap.size + 1 + 1, 0, none⟩)]] 110)
    rw [e] at this
    exact this

set_option maxHeartbeats 1000000 in
theorem erase_c (h : FlashX S w0 w gf g bw be s) {at_ v : Int} (ha : 0 ≤ at_) (ha' : at_ < 4096) (hv : 0 ≤ v) (hv' : v < 4294967296) :
    Calls Try.prog 75 #[.pointer (some ⟨gf, 0, none⟩), .int .i64 at_, .int .u32 v] w fun e w' => e = .returned (.tuple #[]) ∧ FlashX (Sx S w w') w0 w' gf g bw be (Cf.eras1 s at_ v) ∧ Keep (· = gf) w w' := by
  have hmf := @makeFunc_run Try.prog
  have hF := (h.then ((Below.refl _ w).alloc (Nat.le_refl _) (.cells #[.pointer (some ⟨gf, 0, none⟩)] 40))).then ((Below.refl _ _).alloc (Nat.le_refl _) (.cells #[.int .i64 (at_ / 64)] 3))
  obtain ⟨mb, jp, ⟨D, hD1, hD2, hD3⟩, hJ, c0, c1, c2, c3, c4, c5⟩ := hF.cells
  have f5 := hF.free 5
  have hrun : ∀ n, (Instr.lookup 92 (.map (some mb)) (.int .i64 (at_ / 64)) false).run Try.prog (((w.alloc (.cells #[.pointer (some ⟨gf, 0, none⟩)] 40)).alloc (.cells #[.int .i64 (at_ / 64)] 3)).drewN n) = .ok (.int .i64 (if s.locks (at_ / 64) then 1 else 0)) (((w.alloc (.cells #[.pointer (some ⟨gf, 0, none⟩)] 40)).alloc (.cells #[.int .i64 (at_ / 64)] 3)).drewN n) := look_run hD1 hD3 (by omega) (by omega)
  have b0 : ((w.alloc (.cells #[.pointer (some ⟨gf, 0, none⟩)] 40)).alloc (.cells #[.int .i64 (at_ / 64)] 3)).cell? ⟨w.heap.size, 0, none⟩ = some (.pointer (some ⟨gf, 0, none⟩)) := Lib.cell?_alloc_some _ (World.cell?_alloc_mark w #[.pointer (some ⟨gf, 0, none⟩)] 40 (0, 0) 0)
  have b1 : ((w.alloc (.cells #[.pointer (some ⟨gf, 0, none⟩)] 40)).alloc (.cells #[.int .i64 (at_ / 64)] 3)).cell? ⟨w.heap.size + 1, 0, none⟩ = some (.int .i64 (at_ / 64)) := by
    have := World.cell?_alloc_mark (w.alloc (.cells #[.pointer (some ⟨gf, 0, none⟩)] 40)) #[.int .i64 (at_ / 64)] 3 (0, 0) 0
    rw [show (w.alloc (.cells #[.pointer (some ⟨gf, 0, none⟩)] 40)).heap.size = w.heap.size + 1 by simp] at this
    exact this
  have K0 := ((Keep.refl (fun x => x = gf) w).alloc (.cells #[.pointer (some ⟨gf, 0, none⟩)] 40)).alloc (.cells #[.int .i64 (at_ / 64)] 3)
  by_cases hc : v % 256 = 208
  · by_cases hl : s.locks (at_ / 64) = true
    · rw [hl] at hrun
      simp only [if_true] at hrun
      have HS := Lib.hid (show Cf.eras1 s at_ v = Cf.setE s 34 by unfold Cf.eras1; rw [if_pos hc, if_pos hl])
      go_enter Try.func75, Try.ntmps75
      go_wp2
      go_quiet (fail)
      go_wp2_with (go_at_call 67; refine (set_c (hF.drewN nq) (b := 34) (by decide) (by decide)).mono ?_; rintro e w' ⟨rfl, p1, p2⟩)
      first | go_end0 | ((try simp only [Exit.inBlock, Exit.then]); refine bodyPost_ret (results_none rfl _ _ _) rfl ?_)
      refine ⟨rfl, ?_, (K0.drewN nq).trans p2⟩
      rw [HS.out]
      exact p1.up h.old
    · have hl' : s.locks (at_ / 64) = false := by simpa using hl
      rw [hl'] at hrun
      simp only [Bool.false_eq_true, if_false] at hrun
      have HS := Lib.hid (show Cf.eras1 s at_ v = { s with job := some ⟨20, false, at_ / 64, 0⟩ } by unfold Cf.eras1; rw [if_pos hc, if_neg hl])
      go_enter Try.func75, Try.ntmps75
      go_wp2
      go_quiet (fail)
      have hF2 := (hF.drewN nq).then ((Below.refl _ _).alloc (Nat.le_refl _) (.cells #[.int .i64 20, .func (.func 88) #[] #[.pointer (some ⟨w.heap.size, 0, none⟩), .pointer (some ⟨w.heap.size + 1, 0, none⟩)]] 110))
      obtain ⟨mb2, jp2, _, _, _, _, _, _, _, d5⟩ := hF2.cells
      have g5 := hF2.free 5
      go_wp2
      go_end0
      refine ⟨rfl, ?_, ((K0.drewN nq).alloc _).setCell (p := ⟨gf, 5, none⟩) (.inl rfl) _⟩
      rw [HS.out]
      have fr : ∀ k, w.heap.size ≤ k → ¬ S k := fun k hk hs => absurd (h.hi k hs) (by omega)
      have bl := h.old
      refine hF2.setJob (S' := Sx S w _) (fun k hk => .inl hk) (fun k hk => hk.elim (fun e => ⟨h.lo k e, hF2.hi k e⟩) (fun e => ⟨by omega, by have := e.2; simpa [World.setCell] using this⟩)) (fun F hFF => ⟨w.heap.size + 1 + 1, _, rfl, hFF _ (.inr ⟨by omega, by simp [World.setCell]⟩) (fr _ (by omega)), ?_, .inr ⟨rfl, w.heap.size, w.heap.size + 1, hFF _ (.inr ⟨by omega, by simp [World.setCell]; try omega⟩) (fr _ (by omega)), hFF _ (.inr ⟨by omega, by simp [World.setCell]; try omega⟩) (fr _ (by omega)), by omega, by omega, rfl, Lib.cell?_alloc_some _ b0, Lib.cell?_alloc_some _ b1⟩⟩)
        (fun j hj => by cases hj; exact ⟨by show (0 : Int) ≤ 20; decide, by show (20 : Int) ≤ 20; decide, by show (0 : Int) ≤ 0; decide, by show (0 : Int) < 4294967296; decide⟩)
      have e : (((w.alloc (.cells #[.pointer (some ⟨gf, 0, none⟩)] 40)).alloc (.cells #[.int .i64 (at_ / 64)] 3)).drewN nq).heap.size = w.heap.size + 1 + 1 := by simp
      have := heap_alloc_new (((w.alloc (.cells #[.pointer (some ⟨gf, 0, none⟩)] 40)).alloc (.cells #[.int .i64 (at_ / 64)] 3)).drewN nq) (.cells #[.int .i64 20, .func (.func 88) #[] #[.pointer (some ⟨w.heap.size, 0, none⟩), .pointer (some ⟨w.heap.size + 1, 0, none⟩)]] 110)
      rw [e] at this
      exact this
  · have hc' : (v % 256 == 208) = false := by simpa using hc
    have HS := Lib.hid (show Cf.eras1 s at_ v = Cf.setE s 48 by unfold Cf.eras1; rw [if_neg hc])
    go_enter Try.func75, Try.ntmps75
    go_wp2_with (go_at_call 67; refine (set_c hF (b := 48) (by decide) (by decide)).mono ?_; rintro e w' ⟨rfl, p1, p2⟩)
    first | go_end0 | ((try simp only [Exit.inBlock, Exit.then]); refine bodyPost_ret (results_none rfl _ _ _) rfl ?_)
    refine ⟨rfl, ?_, K0.trans p2⟩
    rw [HS.out]
    exact p1.up h.old
end
end Cfi
end Go.Proofs.Ytfghlfolejpjjaa
