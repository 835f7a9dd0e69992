/- DriverStops: wherever the power goes words ahead of that are there, that one in part, and none behind it; the call tells it. No condition. -/
import Derived.Test.YtfghlfolejpjjaaDrRead
namespace Go.Proofs.Ytfghlfolejpjjaa
open Go.RowKit
set_option linter.unusedVariables false
attribute [local go_sem] max2_int min2_int max_two min_two
namespace L05Stops
theorem stop_of {w : World} {cs : Array Value} (s : Sh.ok w (.agg 4 [(0, 1, .int .u8), (1, 1, .int .u8), (2, 1, .int .u32), (3, 1, .slice 1 (.int .u32))]) cs.toList) :
    ∃ (a n p : Int) (q : Option Addr) (len cap : Nat), cs = #[.int .u8 a, .int .u8 n, .int .u32 p, .slice q len cap] ∧ (0 ≤ a ∧ a < 256) ∧ (0 ≤ n ∧ n < 256) ∧ (0 ≤ p ∧ p < 4294967296) ∧ Sh.ok w (.slice 1 (.int .u32)) [.slice q len cap] := by
  obtain ⟨l⟩ := cs
  simp only [Sh.ok] at s
  obtain ⟨hn, ho⟩ := s
  obtain ⟨x, y, z, u, rfl⟩ : ∃ x y z u, l = [x, y, z, u] := by
    match l, hn with
    | [x, y, z, u], _ => exact ⟨x, y, z, u, rfl⟩
  simp only [Sh.oks] at ho
  obtain ⟨o0, o1, o2, o3, _⟩ := ho
  have o3' := o3
  simp only [Sh.ok] at o0 o1 o2 o3
  obtain ⟨n0, q0, w0⟩ := o0
  obtain ⟨n1, q1, w1⟩ := o1
  obtain ⟨n2, q2, w2⟩ := o2
  simp at q0 q1 q2
  subst q0 q1 q2
  have : ∃ q len cap, u = .slice q len cap := by
    rcases o3 with h | ⟨a', len', cap', h, _⟩
    · simp at h; exact ⟨_, _, _, h⟩
    · simp at h; exact ⟨_, _, _, h⟩
  obtain ⟨q, len, cap, rfl⟩ := this
  exact ⟨n0, n1, n2, q, len, cap, rfl, wf_u8 w0, wf_u8 w1, wf_u32 w2, o3'⟩
theorem boxed {w w1 : World} {a0 a1 a2 : Int} {q : Option Addr} {len cap : Nat} (b : Below (w.alloc (.cells #[.int .u8 a0, .int .u8 a1, .int .u32 a2, .slice q len cap] 50)).heap.size (w.alloc (.cells #[.int .u8 a0, .int .u8 a1, .int .u32 a2, .slice q len cap] 50)) w1) :
    Below w.heap.size w w1 ∧ w1.cell? ⟨w.heap.size, 0, none⟩ = some (.int .u8 a0) ∧ w1.cell? ⟨w.heap.size, 1, none⟩ = some (.int .u8 a1) ∧ w1.cell? ⟨w.heap.size, 2, none⟩ = some (.int .u32 a2) ∧ w1.cell? ⟨w.heap.size, 3, none⟩ = some (.slice q len cap) := by
  have hb := (Below.refl _ w).alloc (Nat.le_refl _) (.cells #[.int .u8 a0, .int .u8 a1, .int .u32 a2, .slice q len cap] 50)
  refine ⟨Below.then hb b, ?_, ?_, ?_, ?_⟩
  · exact (Sl.below_cell b (World.cell?_alloc_mark w #[.int .u8 a0, .int .u8 a1, .int .u32 a2, .slice q len cap] 50 (0, 0) 0))
  · exact (Sl.below_cell b (World.cell?_alloc_mark w #[.int .u8 a0, .int .u8 a1, .int .u32 a2, .slice q len cap] 50 (0, 0) 1))
  · exact (Sl.below_cell b (World.cell?_alloc_mark w #[.int .u8 a0, .int .u8 a1, .int .u32 a2, .slice q len cap] 50 (0, 0) 2))
  · exact (Sl.below_cell b (World.cell?_alloc_mark w #[.int .u8 a0, .int .u8 a1, .int .u32 a2, .slice q len cap] 50 (0, 0) 3))
set_option maxHeartbeats 4000000 in
set_option maxRecDepth 100000 in
theorem DriverStops_c (cs0 : Array Value) (w : World) (s0 : Sh.ok w (.agg 4 [(0, 1, .int .u8), (1, 1, .int .u8), (2, 1, .int .u32), (3, 1, .slice 1 (.int .u32))]) cs0.toList) :
    Calls Try.prog 6 #[.agg cs0] w fun e w' => e = .returned (.bool true) ∧ Below w.heap.size w w' := by
  obtain ⟨a0, a1, a2, q, len, cap, rfl, ⟨r0, r0'⟩, ⟨r1, r1'⟩, ⟨r2, r2'⟩, s1⟩ := stop_of s0
  obtain ⟨zs, bb, off, rfl, hcap, hmax, hz, ha, hcell⟩ := words_of s1
  clear s0 s1
  by_cases hb : (10 : Int) < (zs.length : Int)
  · go_enter Try.func6, Try.ntmps6
    go_wp2_with (first | (go_at_call 9; refine (Drv.alive_c _).mono ?_; rintro e w1 ⟨rfl, b0⟩; obtain ⟨b1, cc0, cc1, cc2, cc3⟩ := boxed b0; clear b0))
    go_quiet (fail)
    go_wp2
    go_ret
    exact ⟨rfl, Below.drewN' b1 _⟩
  obtain ⟨k, hk, hkk⟩ : ∃ k : Nat, k < 100 ∧ a0 % 100 = k := ⟨(a0 % 100).toNat, by omega, by omega⟩
  have hkk2 : a0.tmod 100 = k := (Int.tmod_eq_emod_of_nonneg r0).trans hkk
  obtain ⟨n, hn, hnn⟩ : ∃ n : Nat, n < 12 ∧ a1 % 12 = n := ⟨(a1 % 12).toNat, by omega, by omega⟩
  have hnn2 : a1.tmod 12 = n := (Int.tmod_eq_emod_of_nonneg r1).trans hnn
  have hk3 : (k : Int) < 100 := by omega
  have hn3 : (n : Int) < 12 := by omega
  have hb' : (zs.length : Int) ≤ 10 := by omega
  obtain ⟨s0, s1, c1, H0, H1, H2, hj, C0, C1, hA, hB⟩ := Cf.stops5 hk (zs := zs) (by omega) hz (stop := 1 + (n : Int)) (by omega) r2 r2'
  have HZ := Lib.hid hz
  have HC := Lib.hid hcell
  clear hz hcell hb hkk hnn
  by_cases hl : (zs.length : Int) < 1 + (n : Int)
  · obtain ⟨s2, H3, H4⟩ := hA hl
    clear hA hB
    go_enter Try.func6, Try.ntmps6
    go_wp2_with (go_at_call 9; refine (Drv.alive_c _).mono ?_; rintro e w1 ⟨rfl, b0⟩; obtain ⟨b1, cc0, cc1, cc2, cc3⟩ := boxed b0; clear b0)
    go_quiet (fail)
    have b2 := Below.drewN' b1 nq
    go_wp2_with (first |
      (go_at_call 10; refine (Drv.begin_o b2 (n := 2) (endure := 5) (by decide) (by decide) (by omega) (Lib.hid (by omega)) H0).mono ?_; rintro e w2 ⟨g, bw, be, gf, dd, rfl, h0⟩; clear b2) |
      (go_at_call 22; refine (Nor.fuse_k h0.own (Lib.hid (by omega)) r2 r2' H1).mono ?_; rintro e w3 ⟨rfl, hO, hK⟩; have h1 := h0.chip hO hK hj; rw [H2.out] at h1; clear h0 hO hK) |
      (go_at_call 11; refine (Drv.program_o h1 C1.out (by decide) (by decide) (by omega) (by omega) (by omega) HZ ha HC H3).mono ?_; rintro e w4 ⟨rfl, h2⟩; clear h1) |
      (go_at_call 23; refine (Nor.up_o h2.own H4).mono ?_; rintro e w5 ⟨rfl, rfl⟩))
    go_ret
    exact ⟨rfl, h2.own.below⟩
  · have hl2 : 1 + (n : Int) ≤ (zs.length : Int) := by omega
    obtain ⟨s2, t, z, H3, ht, H4, H5, hzl, HG, C2, HW⟩ := hB hl2
    have ht1 := ht.1
    have ht2 := ht.2
    have hzl2 : (z.length : Int) = 128 := by omega
    clear hA hB ht hl
    have hp0 : Hid (Cf.pws s2 0 [1] = (4, 0, s2)) := by
      have : ¬ Cf.wrong s2 0 = 0 := by rw [HW.out]; decide
      refine Cf.pws_one.trans ?_
      unfold Cf.pw; rw [if_neg this, HW.out]
    have he0 : Hid (Cf.ew s2 0 = (4, 0, s2)) := by
      have : ¬ Cf.wrong s2 (0 * 64) = 0 := by rw [HW.out]; decide
      show Cf.ew s2 0 = _
      unfold Cf.ew; rw [if_neg this, HW.out]
    go_enter Try.func6, Try.ntmps6
    go_wp2_with (go_at_call 9; refine (Drv.alive_c _).mono ?_; rintro e w1 ⟨rfl, b0⟩; obtain ⟨b1, cc0, cc1, cc2, cc3⟩ := boxed b0; clear b0)
    go_quiet (fail)
    have b2 := Below.drewN' b1 nq
    go_wp2_with (first |
      (go_at_call 10; refine (Drv.begin_o b2 (n := 2) (endure := 5) (by decide) (by decide) (by omega) (Lib.hid (by omega)) H0).mono ?_; rintro e w2 ⟨g, bw, be, gf, dd, rfl, h0⟩; clear b2) |
      (go_at_call 22; refine (Nor.fuse_k h0.own (Lib.hid (by omega)) r2 r2' H1).mono ?_; rintro e w3 ⟨rfl, hO, hK⟩; have h1 := h0.chip hO hK hj; rw [H2.out] at h1; clear h0 hO hK) |
      (go_at_call 11; refine (Drv.program_o h1 C1.out (by decide) (by decide) (by omega) (by omega) (by omega) HZ ha HC H3).mono ?_; rintro e w4 ⟨rfl, h2⟩; clear h1) |
      (go_at_call 23; refine (Nor.up_o h2.own H4).mono ?_; rintro e w5 ⟨rfl, rfl⟩))
    go_loopw [69] (fun i wr => ∃ m : Nat, m ≤ zs.length ∧ i = .int .i64 m ∧ DrvL w wr dd gf g bw be 2 (0 + t) s2) (fun i _ => zs.length - (intOf i).toNat)
    case atStart => exact ⟨0, Nat.zero_le _, rfl, h2⟩
    case round =>
      obtain ⟨m, hm, rfl, hD⟩ := hrel
      by_cases hlt3 : m < zs.length
      · obtain rfl := ha m hlt3
        have cx := Sl.below_cell hD.own.below (HC.out m hlt3)
        obtain ⟨g1, g2, g3⟩ := HG.out m hlt3
        have hm2 : (m : Int) < (zs.length : Int) := by omega
        have hx := HZ.out m
        have hx1 := hx.1
        have hx2 := hx.2
        rcases Int.lt_trichotomy ((m : Int) + 1) (1 + (n : Int)) with hc | hc | hc
        · have g1' := g1 hc
          have hc2 : (m : Int) < (n : Int) := by omega
          clear g1 g2 g3 hx
          generalize zs.getD m 0 = x at *
          have hc3 : ¬ (n : Int) < (m : Int) := by omega
          have hc4 : ((m : Int) == (n : Int)) = false := by simp; omega
          go_wp2_with (go_at_call 15; refine (Nor.words_o hD.own H5).mono ?_; rintro e w9 ⟨ra, kap1, rfl, p1, p2, p3, _, p5⟩; have hD1 := hD.then p5; clear hD; have cx := p3.cell (i := k + m) (by omega); rw [g1'] at cx)
          go_roundw
          case rel => exact ⟨m + 1, by omega, by go_num, hD1⟩
          case measure => simp [intOf]; omega
        · have g3' := g3 hc
          have hc2 : (m : Int) = (n : Int) := by omega
          obtain ⟨y, hy⟩ : ∃ y, Hid (z.getD (k + m) 0 = y) := ⟨_, rfl⟩
          rw [hy.out] at g3'
          clear g1 g2 g3 hx
          generalize zs.getD m 0 = x at *
          have hc3 : ¬ (m : Int) < (n : Int) := by omega
          have hc4 : ¬ (n : Int) < (m : Int) := by omega
          have hc5 : ((m : Int) == (n : Int)) = true := by simp; omega
          have hx0 : (if IntKind.u32.signed = true then (-1 : Int) else IntKind.u32.max) = 4294967295 := by decide
          have hne : (bits .andNot .u32 y (bits .or .u32 x (bits .xor .u32 (if IntKind.u32.signed = true then -1 else IntKind.u32.max) a2)) != 0) = false := by rw [hx0, g3']; decide
          have hc6 : ((m : Int) + 1 == 1 + (n : Int)) = true := by simp; omega
          clear hc hc2
          go_wp2_with (go_at_call 15; refine (Nor.words_o hD.own H5).mono ?_; rintro e w9 ⟨ra, kap1, rfl, p1, p2, p3, _, p5⟩; have hD1 := hD.then p5; clear hD; have cx := p3.cell (i := k + m) (by omega); rw [hy.out] at cx)
          go_roundw
          case rel => exact ⟨m + 1, by omega, by go_num, hD1⟩
          case measure => simp [intOf]; omega
        · have g2' := g2 hc
          have hc2 : (n : Int) < (m : Int) := by omega
          clear g1 g2 g3 hx
          generalize zs.getD m 0 = x at *
          have hc3 : ¬ (m : Int) < (n : Int) := by omega
          have hc4 : ((m : Int) == (n : Int)) = false := by simp; omega
          go_wp2_with (go_at_call 15; refine (Nor.words_o hD.own H5).mono ?_; rintro e w9 ⟨ra, kap1, rfl, p1, p2, p3, _, p5⟩; have hD1 := hD.then p5; clear hD; have cx := p3.cell (i := k + m) (by omega); rw [g2'] at cx)
          go_roundw
          case rel => exact ⟨m + 1, by omega, by go_num, hD1⟩
          case measure => simp [intOf]; omega
      · have hm2 : (zs.length : Int) ≤ (m : Int) := by omega
        go_wp2_with (first | (go_at_call 16; refine (Drv.read_off hD (at_ := 0) (n := 1) (by decide) (by decide) (Lib.hid (HW.out 0)) (by decide)).mono ?_; rintro e w5 ⟨rfl, h5⟩; clear hD) |
          (go_at_call 13; refine (Drv.erase_o h5 C2.out (by omega) (by omega) (by decide) (by decide) he0).mono ?_; rintro e w6 ⟨rfl, h6⟩; clear h5) |
          (go_at_call 11; refine (Drv.program_lit h6 C2.out (by omega) (by omega) (by decide) (by decide) (zs := [1]) (by decide) (fun i => by match i with | 0 => decide | i + 1 => exact ⟨by simp, by simp⟩) (fun i hi => by match i, hi with | 0, _ => rfl) hp0).mono ?_; rintro e w7 ⟨rfl, h7⟩; clear h6))
        go_ret
        exact ⟨rfl, h7.own.below⟩
end L05Stops
end Go.Proofs.Ytfghlfolejpjjaa
