/- CfiStill: but by a job that is done no word of the chip changes, whatever is written, and read. No condition. -/
import Derived.Test.YtcpcnkmhhmccdaaLive3
import Derived.Test.YtcpcnkmhhmccdaaCfLaws
import Derived.Test.YtcpcnkmhhmccdaaArgs
namespace Go.Proofs.Ytcpcnkmhhmccdaa
open Go.RowKit
set_option linter.unusedVariables false
attribute [local go_sem] max2_int min2_int max_two min_two
namespace L03Still
theorem cell_keep {S : Nat → Prop} {w w' : World} {p : Addr} {v : Value} (hk : Keep S w w') (hc : w.cell? p = some v) (hn : ¬ S p.block) : w'.cell? p = some v := Keep.cell hk hc hn
set_option maxHeartbeats 2000000 in
set_option maxRecDepth 100000 in
theorem CfiStill_c (a0 : Option Addr) (len0 cap0 : Nat) (w : World) (s0 : Sh.ok w (.slice 3 (.agg 3 [(0, 1, .int .u8), (1, 1, .int .i64), (2, 1, .int .u32)])) [.slice a0 len0 cap0]) :
    Calls Try.prog 5 #[.slice a0 len0 cap0] w fun e w' => e = .returned (.bool true) ∧ Below w.heap.size w w' := by
  obtain ⟨ks, ts, vs, b, off, hcap, hmax, hk, ht, hv, ha, hcell⟩ := acts_of s0
  clear s0
  by_cases hb : (80 : Int) < (len0 : Int)
  · go_enter Try.func5, Try.ntmps5
    go_wp2_with (first | (go_at_call 10; refine (Cfi.alive_c _).mono ?_; rintro e w1 ⟨rfl, b1⟩))
    go_ret
    exact ⟨rfl, b1⟩
  · have hb' : (len0 : Int) ≤ 80 := by omega
    obtain ⟨c0, H0, x1, x2⟩ : ∃ c, Hid (Cf.new (Nr.new 3 100) = c) ∧ c.errs < 128 ∧ c.c.wear.length = 3 := ⟨_, rfl, by decide, rfl⟩
    have HC := Lib.hid hcell
    have HV := Lib.hid hv
    have HK := Lib.hid hk
    clear hcell hb ht hv hk
    go_enter Try.func5, Try.ntmps5
    go_wp2_with (first | (go_at_call 10; refine (Cfi.alive_c _).mono ?_; rintro e w1 ⟨rfl, b1⟩) | (go_at_call 11; refine (Cfi.begin_o b1 (n := 3) (endure := 100) (by decide) (by decide) (by decide) (Lib.hid (by decide)) H0).mono ?_; rintro e w2 ⟨g, bw, be, gf, rfl, h1⟩))
    go_loopw [22] (fun i wr => ∃ (j T : Nat) (s : Cf.Fl), j ≤ len0 ∧ i = .int .i64 j ∧ FlashAt w wr T gf g bw be s ∧ s.errs < 128) (fun i _ => len0 - (intOf i).toNat)
    case atStart => exact ⟨0, _, c0, Nat.zero_le _, rfl, h1, x1⟩
    case round =>
      obtain ⟨j, T, s, hj, rfl, hF, y1⟩ := hrel
      by_cases hlt : ¬ j < len0
      · have hlt2 : (len0 : Int) ≤ (j : Int) := by omega
        go_wp2
        go_ret
        exact ⟨rfl, hF.own.below⟩
      replace hlt : j < len0 := by omega
      obtain rfl := ha j hlt
      obtain ⟨q0, q1, q2⟩ := HC.out j hlt
      replace q0 := Sl.below_cell hF.own.below q0
      replace q1 := Sl.below_cell hF.own.below q1
      replace q2 := Sl.below_cell hF.own.below q2
      have hlt2 : (j : Int) < (len0 : Int) := by omega
      have hv := HV.out j
      have hk := HK.out j
      generalize ks j = kk at *
      generalize ts j = tt at *
      generalize vs j = vv at *
      have hFA := hF.then ((Below.refl _ wr).alloc (Nat.le_refl _) (.cells #[.int .u8 kk, .int .i64 tt, .int .u32 vv] 52))
      have bA0 : (wr.alloc (.cells #[.int .u8 kk, .int .i64 tt, .int .u32 vv] 52)).cell? ⟨wr.heap.size, 0, none⟩ = some (.int .u8 kk) := World.cell?_alloc_mark wr #[.int .u8 kk, .int .i64 tt, .int .u32 vv] 52 (0, 0) 0
      have bA1 : (wr.alloc (.cells #[.int .u8 kk, .int .i64 tt, .int .u32 vv] 52)).cell? ⟨wr.heap.size, 1, none⟩ = some (.int .i64 tt) := World.cell?_alloc_mark wr #[.int .u8 kk, .int .i64 tt, .int .u32 vv] 52 (0, 0) 1
      have bA2 : (wr.alloc (.cells #[.int .u8 kk, .int .i64 tt, .int .u32 vv] 52)).cell? ⟨wr.heap.size, 2, none⟩ = some (.int .u32 vv) := World.cell?_alloc_mark wr #[.int .u8 kk, .int .i64 tt, .int .u32 vv] 52 (0, 0) 2
      have hB : ¬ wr.heap.size < T := Nat.not_lt.2 hF.tw
      have hl1 : s.c.words.length ≤ 4096 := by have := hF.own.chip.ok.size; have := hF.own.chip.ok.most; omega
      by_cases e3 : kk % 8 = 3
      · obtain ⟨x, e, hq⟩ : ∃ x e, Hid (Cf.read s tt = (x, e)) := ⟨_, _, rfl⟩
        go_wp2_with (first | (go_at_call 19; refine (Cfi.words_o hFA (zs := s.c.words) rfl).mono ?_; rintro e w4 ⟨r1, kap1, rfl, p1, p2, p3, hF1, p5⟩; clear hFA; have b0 := Sl.below_cell p5 bA0; have b1 := Sl.below_cell p5 bA1; have b2 := Sl.below_cell p5 bA2) | (go_at_call 13; refine (Cfi.read_o hF1 hq).mono ?_; rintro e w5 ⟨rfl, hF2, hB5⟩; clear hF1; replace b0 := Sl.below_cell hB5 b0; replace p3 := p3.below hB5) | (go_at_call 19; refine (Cfi.words_o hF2 (zs := s.c.words) rfl).mono ?_; rintro e w6 ⟨r2, kap2, rfl, s1, s2, s3, hF3, s5⟩; clear hF2; replace p3 := p3.below s5) | (go_at_call 20; refine (Ref1.words_same (b1 := r1) (o1 := 0) (b2 := r2) (o2 := 0) (fun _ _ => rfl) (fun _ _ => rfl) (by omega) (fun i hi => by rw [Nat.zero_add]; exact p3.cell hi) (fun i hi => by rw [Nat.zero_add]; exact s3.cell hi)).mono ?_; rintro e w7 ⟨rfl, b7⟩; replace hF3 := hF3.then b7))
        go_roundw
        case rel => exact ⟨j + 1, _, _, by omega, by go_num, hF3, y1⟩
        case measure => simp [intOf]; omega
      have f3 : (kk % 8 == 3) = false := by simpa using e3
      clear e3
      by_cases e4 : kk % 8 = 4
      · obtain ⟨e, s', hq⟩ : ∃ e s', Hid (Cf.tick s tt = (e, s')) := ⟨_, _, rfl⟩
        have y2 : s'.errs < 128 := by have := Cf.tick_small hF.ok.elo y1 tt; rw [hq.out] at this; exact this
        cases hjb : s.job with
        | some jb =>
          have hst := Cf.status_busy hF.ok y1 hjb
          go_wp2_with (first | (go_at_call 19; refine (Cfi.words_o hFA (zs := s.c.words) rfl).mono ?_; rintro e w4 ⟨r1, kap1, rfl, p1, p2, p3, hF1, p5⟩; clear hFA; have b0 := Sl.below_cell p5 bA0; have b1 := Sl.below_cell p5 bA1; have b2 := Sl.below_cell p5 bA2) | (go_at_call 17; refine (Cfi.status_o hF1 rfl).mono ?_; rintro e w5 ⟨rfl, rfl⟩) | (go_at_call 16; refine (Cfi.tick_o hF1 hq).mono ?_; rintro e w5 ⟨rfl, hF2, hK⟩; clear hF1; replace b0 := cell_keep hK b0 hB; replace b1 := cell_keep hK b1 hB; replace b2 := cell_keep hK b2 hB; replace p3 := p3.keep hK (Nat.not_lt.2 p2)))
          go_roundw
          case rel => exact ⟨j + 1, _, _, by omega, by go_num, hF2, y2⟩
          case measure => simp [intOf]; omega
        | none =>
          have hst := Cf.status_idle hF.ok hjb
          have hsame : s'.c.words = s.c.words := by have := Cf.tick_idle hjb tt; rw [hq.out] at this; exact congrArg Nr.C.words this
          go_wp2_with (first | (go_at_call 19; refine (Cfi.words_o hFA (zs := s.c.words) rfl).mono ?_; rintro e w4 ⟨r1, kap1, rfl, p1, p2, p3, hF1, p5⟩; clear hFA; have b0 := Sl.below_cell p5 bA0; have b1 := Sl.below_cell p5 bA1; have b2 := Sl.below_cell p5 bA2) | (go_at_call 17; refine (Cfi.status_o hF1 rfl).mono ?_; rintro e w5 ⟨rfl, rfl⟩) | (go_at_call 16; refine (Cfi.tick_o hF1 hq).mono ?_; rintro e w5 ⟨rfl, hF2, hK⟩; clear hF1; replace b0 := cell_keep hK b0 hB; replace b1 := cell_keep hK b1 hB; replace b2 := cell_keep hK b2 hB; replace p3 := p3.keep hK (Nat.not_lt.2 p2)) | (go_at_call 19; refine (Cfi.words_o hF2 (zs := s.c.words) hsame).mono ?_; rintro e w6 ⟨r2, kap2, rfl, s1, s2, s3, hF3, s5⟩; clear hF2; replace p3 := p3.below s5) | (go_at_call 20; refine (Ref1.words_same (b1 := r1) (o1 := 0) (b2 := r2) (o2 := 0) (fun _ _ => rfl) (fun _ _ => rfl) (by omega) (fun i hi => by rw [Nat.zero_add]; exact p3.cell hi) (fun i hi => by rw [Nat.zero_add]; exact s3.cell hi)).mono ?_; rintro e w7 ⟨rfl, b7⟩; replace hF3 := hF3.then b7))
          go_roundw
          case rel => exact ⟨j + 1, _, _, by omega, by go_num, hF3, y2⟩
          case measure => simp [intOf]; omega
      have f4 : (kk % 8 == 4) = false := by simpa using e4
      clear e4
      obtain ⟨e, s', hq⟩ : ∃ e s', Hid (Cf.write s tt vv = (e, s')) := ⟨_, _, rfl⟩
      have y2 : s'.errs < 128 := by have := Cf.write_small hF.ok.elo y1 tt vv; rw [hq.out] at this; exact this
      have hsame : s'.c.words = s.c.words := by have := Cf.write_chip s tt vv; rw [hq.out] at this; exact congrArg Nr.C.words this
      go_wp2_with (first | (go_at_call 19; refine (Cfi.words_o hFA (zs := s.c.words) rfl).mono ?_; rintro e w4 ⟨r1, kap1, rfl, p1, p2, p3, hF1, p5⟩; clear hFA; have b0 := Sl.below_cell p5 bA0; have b1 := Sl.below_cell p5 bA1; have b2 := Sl.below_cell p5 bA2) | (go_at_call 14; refine (Cfi.write_o hF1 hv.1 hv.2 hq).mono ?_; rintro e w5 ⟨rfl, hF2, hK⟩; clear hF1; replace b0 := cell_keep hK b0 hB; replace b1 := cell_keep hK b1 hB; replace b2 := cell_keep hK b2 hB; replace p3 := p3.keep hK (Nat.not_lt.2 p2)) | (go_at_call 19; refine (Cfi.words_o hF2 (zs := s.c.words) hsame).mono ?_; rintro e w6 ⟨r2, kap2, rfl, s1, s2, s3, hF3, s5⟩; clear hF2; replace p3 := p3.below s5) | (go_at_call 20; refine (Ref1.words_same (b1 := r1) (o1 := 0) (b2 := r2) (o2 := 0) (fun _ _ => rfl) (fun _ _ => rfl) (by omega) (fun i hi => by rw [Nat.zero_add]; exact p3.cell hi) (fun i hi => by rw [Nat.zero_add]; exact s3.cell hi)).mono ?_; rintro e w7 ⟨rfl, b7⟩; replace hF3 := hF3.then b7))
      go_roundw
      case rel => exact ⟨j + 1, _, _, by omega, by go_num, hF3, y2⟩
      case measure => simp [intOf]; omega
end L03Still
end Go.Proofs.Ytcpcnkmhhmccdaa
