/- Contracts of package cfi (3): locks, commands. -/
import Derived.Test.YtfghlfolejpjjaaCfi2
namespace Go.Proofs.Ytfghlfolejpjjaa
open Go.RowKit Go.Maps
set_option linter.unusedVariables false
attribute [local go_sem] max2_int min2_int max_two min_two
namespace Cfi
section
variable {w0 w : World} {S : Nat → Prop} {gf g bw be : Nat} {s : Cf.Fl}
set_option maxHeartbeats 1000000 in
theorem lock_c (h : FlashX S w0 w gf g bw be s) {at_ v : Int} (ha : 0 ≤ at_) (ha' : at_ < 4096) (hv : 0 ≤ v) (hv' : v < 4294967296) :
    Calls Try.prog 76 #[.pointer (some ⟨gf, 0, none⟩), .int .i64 at_, .int .u32 v] w fun e w' => e = .returned (.tuple #[]) ∧ FlashX (Sx S w w') w0 w' gf g bw be (Cf.lock1 s at_ v) ∧ Keep S w w' := by
  obtain ⟨mb, jp, ⟨D, hD1, hD2, hD3⟩, hJ, c0, c1, c2, c3, c4, c5⟩ := h.cells
  have hF := h
  by_cases hc : v % 256 = 1
  · have HS := Lib.hid (show Cf.lock1 s at_ v = { s with locks := Cf.upd s.locks (at_ / 64) true } from if_pos hc)
    go_enter Try.func76, Try.ntmps76
    go_wp2_with (at_mapUpdate; refine wpList_mapUpdate_own _ rfl _ _ _ 92 rfl 3 3 lawInt underLocks _ mb 64 D rfl hD1 (by unfold maxLen; omega) _ _ _ rfl rfl (keyOf_int_mk underInt (WalkArith.wf_i64 (by omega))) _ [] (plainElem_int underInt (WalkArith.wf_i64 (by omega))) ?_; intro w1 hown1 hgrow1)
    go_end0
    obtain ⟨p1, p2⟩ := hF.setLocks c4 hgrow1 (locks_put hown1 (World.ownsMap.isMap hD1) hD2 hD3 (by omega) (by omega))
    refine ⟨rfl, ?_, p2⟩
    rw [HS.out]
    exact p1.up hF.old
  · by_cases hc2 : v % 256 = 208
    · have HS := Lib.hid (show Cf.lock1 s at_ v = { s with locks := Cf.upd s.locks (at_ / 64) false } from (if_neg hc).trans (if_pos hc2))
      go_enter Try.func76, Try.ntmps76
      go_wp2_with (at_delete; refine wpList_delete_own _ rfl _ _ 92 3 rfl 3 lawInt underLocks _ mb 64 D rfl hD1 _ _ rfl (keyOf_int_mk underInt (WalkArith.wf_i64 (by omega))) ?_; intro w1 hown1 hturn1)
      go_end0
      obtain ⟨p1, p2⟩ := hF.setLocks c4 (World.mapTurned.grown hturn1) (locks_del hown1 hD2 hD3)
      refine ⟨rfl, ?_, p2⟩
      rw [HS.out]
      exact p1.up hF.old
    · have hc' : (v % 256 == 1) = false := by simpa using hc
      have hc2' : (v % 256 == 208) = false := by simpa using hc2
      have HS := Lib.hid (show Cf.lock1 s at_ v = Cf.setE s 48 from (if_neg hc).trans (if_neg hc2))
      go_enter Try.func76, Try.ntmps76
      go_wp2_with (go_at_call 67; refine (set_c hF (b := 48) (by decide) (by decide)).mono ?_; rintro e w' ⟨rfl, p1, p2⟩)
      first | go_end0 | ((try simp only [Exit.inBlock, Exit.then]); refine bodyPost_ret (results_none rfl _ _ _) rfl ?_)
      refine ⟨rfl, ?_, p2.mono fun k _ e => e ▸ hF.mem.1⟩
      rw [HS.out]
      exact p1.up hF.old
end
end Cfi
end Go.Proofs.Ytfghlfolejpjjaa
