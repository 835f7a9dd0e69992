/- Contracts of package nor: what changes words. -/
import Derived.Test.YtfghlfolejpjjaaNor
namespace Go.Proofs.Ytfghlfolejpjjaa
open Go.RowKit
set_option linter.unusedVariables false
attribute [local go_sem] max2_int min2_int max_two min_two
theorem makeFunc_run {P : Program} (fn : Fn) (first cap : Array Value) (w : World) : (Instr.makeFunc fn first cap).run P w = .ok (.func fn first cap) w := rfl
theorem Keep.cell {S : Nat → Prop} {w w' : World} {p : Addr} {v : Value} (h : Keep S w w') (hc : w.cell? p = some v) (hn : ¬ S p.block) : w'.cell? p = some v := by
  by_cases lt : p.block < w.heap.size
  · have := h.block _ lt hn
    unfold World.cell? at hc ⊢; rw [this]; exact hc
  · have : w.heap[p.block]? = none := by simp; omega
    unfold World.cell? at hc; rw [this] at hc; cases hc
namespace Nor
section
variable {w : World} {g bw be : Nat} {c : Nr.C}

theorem prog1_c {bv : Nat} (x v : Int) (hv : w.cell? ⟨bv, 0, none⟩ = some (.int .u32 v)) : Calls Try.prog 95 #[.int .u32 x, .pointer (some ⟨bv, 0, none⟩)] w fun e w' => e = .returned (.int .u32 (bits .and .u32 x v)) ∧ w = w' := by
  go_enter Try.func95, Try.ntmps95
  go_wp2
  go_ret
  exact ⟨rfl, rfl⟩

theorem erase1_c (x : Int) : Calls Try.prog 96 #[.int .u32 x] w fun e w' => e = .returned (.int .u32 4294967295) ∧ w = w' := by
  go_enter Try.func96, Try.ntmps96
  go_wp2
  go_ret
  exact ⟨rfl, rfl⟩

set_option maxHeartbeats 4000000 in
theorem changeP_c (h : Chip w g bw be c) (hoff : c.off = false) {at_ m : Nat} (hm1 : 1 ≤ m) (hm : at_ + m ≤ c.words.length) {bv : Nat} {v : Int} (hv : w.cell? ⟨bv, 0, none⟩ = some (.int .u32 v)) (hv0 : 0 ≤ v) (hv1 : v < 4294967296) (hne : bv ≠ g ∧ bv ≠ bw) :
    Calls Try.prog 94 #[.pointer (some ⟨g, 0, none⟩), .int .i64 at_, .int .i64 m, .func (.func 95) #[] #[.pointer (some ⟨bv, 0, none⟩)]] w fun e w' =>
      e = .returned (.int .i64 (Nr.ended c)) ∧ Chip w' g bw be (Nr.change c at_ m (fun w => bits .and .u32 w v)) ∧ Keep (fun k => k = g ∨ k = bw) w w' := by
  obtain ⟨kw, ke, l1, l2, c0, c1, c2, c3, c4, c5⟩ := h.cells
  have hC := h
  have f0 := h.free 3
  have fl := h.ok.fuse_lo
  have hsz : c.words.length ≤ 4096 := by have := h.ok.size; have := h.ok.most; omega
  have hsz2 : (c.words.length : Int) ≤ 4096 := by omega
  have hm2 : (at_ : Int) + (m : Int) ≤ (c.words.length : Int) := by omega
  have hm3 : (at_ : Int) + (m : Int) ≤ (kw : Int) := by omega
  have hkn : ¬ kw = at_ := by omega
  have hwr : IntKind.i64.wrap (c.fuse - 1) = c.fuse - 1 := by rw [IntWalk.i64_left]; exact IntWalk.wrap64_in _ (by have := h.ok.fuse_hi; omega)
  have hmx : (if c.fuse - 1 < 0 then (0 : Int) else c.fuse - 1) = max (c.fuse - 1) 0 := by omega
  have h0 : Chip (w.setCell ⟨g, 3, none⟩ (.int .i64 (max (c.fuse - 1) 0))) g bw be (Nr.mid c at_ 0 (fun w => bits .and .u32 w v)) := by
    have o := Nr.mid_ok h.ok at_ 0 (to := (fun w => bits .and .u32 w v)) (Nr.and_word hv0 hv1)
    rw [Nr.mid_zero] at o ⊢
    exact h.set 3 _ o rfl rfl (fun _ _ => rfl)
  have k0 : Keep (fun k => k = g ∨ k = bw) w (w.setCell ⟨g, 3, none⟩ (.int .i64 (max (c.fuse - 1) 0))) := (Keep.refl _ w).setCell (p := ⟨g, 3, none⟩) (.inl (.inl rfl)) _
  by_cases hf : c.fuse = 1
  · have hf' : (c.fuse == 1) = true := by simpa using hf
    have HF := Lib.hid hf
    clear hf
    go_enter Try.func94, Try.ntmps94
    go_wp2
    rw [show at_ + m - at_ = m by omega]
    go_loopw [37] (fun i wr => ∃ k : Nat, k ≤ m ∧ i = .int .i64 k ∧ Chip wr g bw be (Nr.mid c at_ k (fun w => bits .and .u32 w v)) ∧ Keep (fun k => k = g ∨ k = bw) w wr) (fun i _ => m - (intOf i).toNat)
    case atStart => exact ⟨0, Nat.zero_le _, rfl, h0, k0⟩
    case round =>
      obtain ⟨k, hk, rfl, hc, hkp⟩ := hrel
      by_cases hlt : k < m
      · obtain ⟨kw', ke', l1', l2', d0, d1, d2, d3, d4, d5⟩ := hc.cells
        have cx := hc.word (i := at_ + k) (by rw [Nr.mid_len]; omega)
        have hx := h.ok.words_lo (at_ + k)
        have hx' := h.ok.words_hi (at_ + k)
        have HS := Lib.hid (Nr.mid_succ c at_ k (fun w => bits .and .u32 w v) (by omega))
        have HSet := Lib.hid (fun v hok => hc.setWord (i := at_ + k) (v := v) (by rw [Nr.mid_len]; omega) hok)
        have o := Lib.hid (Nr.mid_ok h.ok at_ (k + 1) (to := (fun w => bits .and .u32 w v)) (Nr.and_word hv0 hv1))
        have fw := hc.wordFree (at_ + k)
        rw [Nr.mid_getD _ _ _ _ (by omega)] at cx
        rw [Nr.mid_len] at d0
        generalize c.words.getD (at_ + k) 0 = x at cx hx hx' HS
        have hy := (Nr.and_word hv0 hv1) x hx hx'
        have ht := Bt.turn_rng c.pick k
        have cv := hkp.cell hv (by simpa using hne)
        have hlt2 : (k : Int) < (m : Int) := by omega
        have hlt3 : (at_ : Int) + (k : Int) < (c.words.length : Int) := by omega
        have hcat : ((at_ : Int) + (k : Int)).toNat = at_ + k := by omega
        go_wp2_with (first | (go_at_call 95; refine (prog1_c _ _ cv).mono ?_; rintro e w' ⟨rfl, rfl⟩) | (go_at_call 99; refine (Bits.turn_c _ _ _ h.ok.pick_lo h.ok.pick_hi).mono ?_; rintro e w' ⟨rfl, rfl⟩) | (go_at_call 98; refine (Bits.part_c _ _ _ _ hx hx' hy.1 hy.2 ht.1 ht.2).mono ?_; rintro e w' ⟨rfl, rfl⟩))
        go_roundw
        case rel =>
          refine ⟨k + 1, by omega, by go_num, ?_, hkp.setCell (p := ⟨bw, at_ + k, none⟩) (.inl (.inr rfl)) _⟩
          have E := HS.out (Bt.part x ((fun w => bits .and .u32 w v) x) (Bt.turn c.pick k)) (by unfold Nr.way; rw [if_pos (by simpa using HF.out)])
          rw [← E] at o ⊢
          exact HSet.out _ o.out
        case measure => simp [intOf]; omega
      · obtain rfl : k = m := by omega
        have f5 := hc.free 5
        obtain ⟨kw', ke', l1', l2', d0, d1, d2, d3, d4, d5⟩ := hc.cells
        go_wp2
        go_ret
        refine ⟨ret_int (by rw [Nr.ended, if_pos HF.out]), ?_, hkp.setCell (p := ⟨g, 5, none⟩) (.inl (.inl rfl)) _⟩
        have o := Nr.change_ok hC.ok at_ k (to := (fun w => bits .and .u32 w v)) (Nr.and_word hv0 hv1)
        rw [← Nr.mid_off _ _ _ _ HF.out] at o ⊢
        exact hc.set 5 _ o rfl rfl (fun _ _ => rfl)
  · have hf' : (c.fuse == 1) = false := by simpa using hf
    have HF := Lib.hid hf
    clear hf
    go_enter Try.func94, Try.ntmps94
    go_wp2
    rw [show at_ + m - at_ = m by omega]
    go_loopw [37] (fun i wr => ∃ k : Nat, k ≤ m ∧ i = .int .i64 k ∧ Chip wr g bw be (Nr.mid c at_ k (fun w => bits .and .u32 w v)) ∧ Keep (fun k => k = g ∨ k = bw) w wr) (fun i _ => m - (intOf i).toNat)
    case atStart => exact ⟨0, Nat.zero_le _, rfl, h0, k0⟩
    case round =>
      obtain ⟨k, hk, rfl, hc, hkp⟩ := hrel
      by_cases hlt : k < m
      · obtain ⟨kw', ke', l1', l2', d0, d1, d2, d3, d4, d5⟩ := hc.cells
        have cx := hc.word (i := at_ + k) (by rw [Nr.mid_len]; omega)
        have hx := h.ok.words_lo (at_ + k)
        have hx' := h.ok.words_hi (at_ + k)
        have HS := Lib.hid (Nr.mid_succ c at_ k (fun w => bits .and .u32 w v) (by omega))
        have HSet := Lib.hid (fun v hok => hc.setWord (i := at_ + k) (v := v) (by rw [Nr.mid_len]; omega) hok)
        have o := Lib.hid (Nr.mid_ok h.ok at_ (k + 1) (to := (fun w => bits .and .u32 w v)) (Nr.and_word hv0 hv1))
        have fw := hc.wordFree (at_ + k)
        rw [Nr.mid_getD _ _ _ _ (by omega)] at cx
        rw [Nr.mid_len] at d0
        generalize c.words.getD (at_ + k) 0 = x at cx hx hx' HS
        have hy := (Nr.and_word hv0 hv1) x hx hx'
        have ht := Bt.turn_rng c.pick k
        have cv := hkp.cell hv (by simpa using hne)
        have hlt2 : (k : Int) < (m : Int) := by omega
        have hlt3 : (at_ : Int) + (k : Int) < (c.words.length : Int) := by omega
        have hcat : ((at_ : Int) + (k : Int)).toNat = at_ + k := by omega
        go_wp2_with (first | (go_at_call 95; refine (prog1_c _ _ cv).mono ?_; rintro e w' ⟨rfl, rfl⟩) | (go_at_call 99; refine (Bits.turn_c _ _ _ h.ok.pick_lo h.ok.pick_hi).mono ?_; rintro e w' ⟨rfl, rfl⟩) | (go_at_call 98; refine (Bits.part_c _ _ _ _ hx hx' hy.1 hy.2 ht.1 ht.2).mono ?_; rintro e w' ⟨rfl, rfl⟩))
        go_roundw
        case rel =>
          refine ⟨k + 1, by omega, by go_num, ?_, hkp.setCell (p := ⟨bw, at_ + k, none⟩) (.inl (.inr rfl)) _⟩
          have E := HS.out (((fun w => bits .and .u32 w v)) x) (by unfold Nr.way; rw [if_neg (by simpa using HF.out)])
          rw [← E] at o ⊢
          exact HSet.out _ o.out
        case measure => simp [intOf]; omega
      · obtain rfl : k = m := by omega
        go_wp2
        go_ret
        refine ⟨ret_int (by rw [Nr.ended, if_neg HF.out]), ?_, hkp⟩
        rw [← Nr.mid_on _ _ _ _ hoff HF.out]
        exact hc

set_option maxHeartbeats 4000000 in
theorem changeE_c (h : Chip w g bw be c) (hoff : c.off = false) {at_ m : Nat} (hm1 : 1 ≤ m) (hm : at_ + m ≤ c.words.length) :
    Calls Try.prog 94 #[.pointer (some ⟨g, 0, none⟩), .int .i64 at_, .int .i64 m, .func (.func 96) #[] #[]] w fun e w' =>
      e = .returned (.int .i64 (Nr.ended c)) ∧ Chip w' g bw be (Nr.change c at_ m (fun _ => 4294967295)) ∧ Keep (fun k => k = g ∨ k = bw) w w' := by
  obtain ⟨kw, ke, l1, l2, c0, c1, c2, c3, c4, c5⟩ := h.cells
  have hC := h
  have f0 := h.free 3
  have fl := h.ok.fuse_lo
  have hsz : c.words.length ≤ 4096 := by have := h.ok.size; have := h.ok.most; omega
  have hsz2 : (c.words.length : Int) ≤ 4096 := by omega
  have hm2 : (at_ : Int) + (m : Int) ≤ (c.words.length : Int) := by omega
  have hm3 : (at_ : Int) + (m : Int) ≤ (kw : Int) := by omega
  have hkn : ¬ kw = at_ := by omega
  have hwr : IntKind.i64.wrap (c.fuse - 1) = c.fuse - 1 := by rw [IntWalk.i64_left]; exact IntWalk.wrap64_in _ (by have := h.ok.fuse_hi; omega)
  have hmx : (if c.fuse - 1 < 0 then (0 : Int) else c.fuse - 1) = max (c.fuse - 1) 0 := by omega
  have h0 : Chip (w.setCell ⟨g, 3, none⟩ (.int .i64 (max (c.fuse - 1) 0))) g bw be (Nr.mid c at_ 0 (fun _ => 4294967295)) := by
    have o := Nr.mid_ok h.ok at_ 0 (to := (fun _ => 4294967295)) (fun (w : Int) (_ : 0 ≤ w) (_ : w < 4294967296) => (by decide : (0 : Int) ≤ 4294967295 ∧ (4294967295 : Int) < 4294967296))
    rw [Nr.mid_zero] at o ⊢
    exact h.set 3 _ o rfl rfl (fun _ _ => rfl)
  have k0 : Keep (fun k => k = g ∨ k = bw) w (w.setCell ⟨g, 3, none⟩ (.int .i64 (max (c.fuse - 1) 0))) := (Keep.refl _ w).setCell (p := ⟨g, 3, none⟩) (.inl (.inl rfl)) _
  by_cases hf : c.fuse = 1
  · have hf' : (c.fuse == 1) = true := by simpa using hf
    have HF := Lib.hid hf
    clear hf
    go_enter Try.func94, Try.ntmps94
    go_wp2
    rw [show at_ + m - at_ = m by omega]
    go_loopw [37] (fun i wr => ∃ k : Nat, k ≤ m ∧ i = .int .i64 k ∧ Chip wr g bw be (Nr.mid c at_ k (fun _ => 4294967295)) ∧ Keep (fun k => k = g ∨ k = bw) w wr) (fun i _ => m - (intOf i).toNat)
    case atStart => exact ⟨0, Nat.zero_le _, rfl, h0, k0⟩
    case round =>
      obtain ⟨k, hk, rfl, hc, hkp⟩ := hrel
      by_cases hlt : k < m
      · obtain ⟨kw', ke', l1', l2', d0, d1, d2, d3, d4, d5⟩ := hc.cells
        have cx := hc.word (i := at_ + k) (by rw [Nr.mid_len]; omega)
        have hx := h.ok.words_lo (at_ + k)
        have hx' := h.ok.words_hi (at_ + k)
        have HS := Lib.hid (Nr.mid_succ c at_ k (fun _ => 4294967295) (by omega))
        have HSet := Lib.hid (fun v hok => hc.setWord (i := at_ + k) (v := v) (by rw [Nr.mid_len]; omega) hok)
        have o := Lib.hid (Nr.mid_ok h.ok at_ (k + 1) (to := (fun _ => 4294967295)) (fun (w : Int) (_ : 0 ≤ w) (_ : w < 4294967296) => (by decide : (0 : Int) ≤ 4294967295 ∧ (4294967295 : Int) < 4294967296)))
        have fw := hc.wordFree (at_ + k)
        rw [Nr.mid_getD _ _ _ _ (by omega)] at cx
        rw [Nr.mid_len] at d0
        generalize c.words.getD (at_ + k) 0 = x at cx hx hx' HS
        have hy := (fun (w : Int) (_ : 0 ≤ w) (_ : w < 4294967296) => (by decide : (0 : Int) ≤ 4294967295 ∧ (4294967295 : Int) < 4294967296)) x hx hx'
        have ht := Bt.turn_rng c.pick k
        have hlt2 : (k : Int) < (m : Int) := by omega
        have hlt3 : (at_ : Int) + (k : Int) < (c.words.length : Int) := by omega
        have hcat : ((at_ : Int) + (k : Int)).toNat = at_ + k := by omega
        go_wp2_with (first | (go_at_call 96; refine (erase1_c _).mono ?_; rintro e w' ⟨rfl, rfl⟩) | (go_at_call 99; refine (Bits.turn_c _ _ _ h.ok.pick_lo h.ok.pick_hi).mono ?_; rintro e w' ⟨rfl, rfl⟩) | (go_at_call 98; refine (Bits.part_c _ _ _ _ hx hx' hy.1 hy.2 ht.1 ht.2).mono ?_; rintro e w' ⟨rfl, rfl⟩))
        go_roundw
        case rel =>
          refine ⟨k + 1, by omega, by go_num, ?_, hkp.setCell (p := ⟨bw, at_ + k, none⟩) (.inl (.inr rfl)) _⟩
          have E := HS.out (Bt.part x ((fun _ => 4294967295) x) (Bt.turn c.pick k)) (by unfold Nr.way; rw [if_pos (by simpa using HF.out)])
          rw [← E] at o ⊢
          exact HSet.out _ o.out
        case measure => simp [intOf]; omega
      · obtain rfl : k = m := by omega
        have f5 := hc.free 5
        obtain ⟨kw', ke', l1', l2', d0, d1, d2, d3, d4, d5⟩ := hc.cells
        go_wp2
        go_ret
        refine ⟨ret_int (by rw [Nr.ended, if_pos HF.out]), ?_, hkp.setCell (p := ⟨g, 5, none⟩) (.inl (.inl rfl)) _⟩
        have o := Nr.change_ok hC.ok at_ k (to := (fun _ => 4294967295)) (fun (w : Int) (_ : 0 ≤ w) (_ : w < 4294967296) => (by decide : (0 : Int) ≤ 4294967295 ∧ (4294967295 : Int) < 4294967296))
        rw [← Nr.mid_off _ _ _ _ HF.out] at o ⊢
        exact hc.set 5 _ o rfl rfl (fun _ _ => rfl)
  · have hf' : (c.fuse == 1) = false := by simpa using hf
    have HF := Lib.hid hf
    clear hf
    go_enter Try.func94, Try.ntmps94
    go_wp2
    rw [show at_ + m - at_ = m by omega]
    go_loopw [37] (fun i wr => ∃ k : Nat, k ≤ m ∧ i = .int .i64 k ∧ Chip wr g bw be (Nr.mid c at_ k (fun _ => 4294967295)) ∧ Keep (fun k => k = g ∨ k = bw) w wr) (fun i _ => m - (intOf i).toNat)
    case atStart => exact ⟨0, Nat.zero_le _, rfl, h0, k0⟩
    case round =>
      obtain ⟨k, hk, rfl, hc, hkp⟩ := hrel
      by_cases hlt : k < m
      · obtain ⟨kw', ke', l1', l2', d0, d1, d2, d3, d4, d5⟩ := hc.cells
        have cx := hc.word (i := at_ + k) (by rw [Nr.mid_len]; omega)
        have hx := h.ok.words_lo (at_ + k)
        have hx' := h.ok.words_hi (at_ + k)
        have HS := Lib.hid (Nr.mid_succ c at_ k (fun _ => 4294967295) (by omega))
        have HSet := Lib.hid (fun v hok => hc.setWord (i := at_ + k) (v := v) (by rw [Nr.mid_len]; omega) hok)
        have o := Lib.hid (Nr.mid_ok h.ok at_ (k + 1) (to := (fun _ => 4294967295)) (fun (w : Int) (_ : 0 ≤ w) (_ : w < 4294967296) => (by decide : (0 : Int) ≤ 4294967295 ∧ (4294967295 : Int) < 4294967296)))
        have fw := hc.wordFree (at_ + k)
        rw [Nr.mid_getD _ _ _ _ (by omega)] at cx
        rw [Nr.mid_len] at d0
        generalize c.words.getD (at_ + k) 0 = x at cx hx hx' HS
        have hy := (fun (w : Int) (_ : 0 ≤ w) (_ : w < 4294967296) => (by decide : (0 : Int) ≤ 4294967295 ∧ (4294967295 : Int) < 4294967296)) x hx hx'
        have ht := Bt.turn_rng c.pick k
        have hlt2 : (k : Int) < (m : Int) := by omega
        have hlt3 : (at_ : Int) + (k : Int) < (c.words.length : Int) := by omega
        have hcat : ((at_ : Int) + (k : Int)).toNat = at_ + k := by omega
        go_wp2_with (first | (go_at_call 96; refine (erase1_c _).mono ?_; rintro e w' ⟨rfl, rfl⟩) | (go_at_call 99; refine (Bits.turn_c _ _ _ h.ok.pick_lo h.ok.pick_hi).mono ?_; rintro e w' ⟨rfl, rfl⟩) | (go_at_call 98; refine (Bits.part_c _ _ _ _ hx hx' hy.1 hy.2 ht.1 ht.2).mono ?_; rintro e w' ⟨rfl, rfl⟩))
        go_roundw
        case rel =>
          refine ⟨k + 1, by omega, by go_num, ?_, hkp.setCell (p := ⟨bw, at_ + k, none⟩) (.inl (.inr rfl)) _⟩
          have E := HS.out (((fun _ => 4294967295)) x) (by unfold Nr.way; rw [if_neg (by simpa using HF.out)])
          rw [← E] at o ⊢
          exact HSet.out _ o.out
        case measure => simp [intOf]; omega
      · obtain rfl : k = m := by omega
        go_wp2
        go_ret
        refine ⟨ret_int (by rw [Nr.ended, if_neg HF.out]), ?_, hkp⟩
        rw [← Nr.mid_on _ _ _ _ hoff HF.out]
        exact hc
end
end Nor
end Go.Proofs.Ytfghlfolejpjjaa
