/- NorCells: but by an erasure no bit is set; nothing but the word, or the block, that is named changes. No condition. -/
import Derived.Test.YtmaakjabjpppkaaLive2
import Derived.Test.YtmaakjabjpppkaaNrLaws
import Derived.Test.YtmaakjabjpppkaaArgs
namespace Go.Proofs.Ytmaakjabjpppkaa
open Go.RowKit
set_option linter.unusedVariables false
attribute [local go_sem] max2_int min2_int max_two min_two
namespace L02Cells
theorem cell_keep {S : Nat → Prop} {w w' : World} {p : Addr} {v : Value} (hk : Keep S w w') (hc : w.cell? p = some v) (hn : ¬ S p.block) : w'.cell? p = some v := Keep.cell hk hc hn
set_option maxHeartbeats 2000000 in
set_option maxRecDepth 100000 in
theorem NorCells_c (a0 : Option Addr) (len0 cap0 : Nat) (w : World) (s0 : Sh.ok w (.slice 3 (.agg 3 [(0, 1, .int .u8), (1, 1, .int .i64), (2, 1, .int .u32)])) [.slice a0 len0 cap0]) :
    Calls Try.prog 7 #[.slice a0 len0 cap0] w fun e w' => e = .returned (.bool true) ∧ Below w.heap.size w w' := by
  obtain ⟨ks, ts, vs, b, off, hcap, hmax, hk, ht, hv, ha, hcell⟩ := acts_of s0
  clear s0
  by_cases hb : (60 : Int) < (len0 : Int)
  · go_enter Try.func7, Try.ntmps7
    go_wp2_with (first | (go_at_call 11; refine (Nor.alive_c _).mono ?_; rintro e w1 ⟨rfl, b1⟩))
    go_ret
    exact ⟨rfl, b1⟩
  · have hb' : (len0 : Int) ≤ 60 := by omega
    obtain ⟨c0, H0, x1⟩ : ∃ c, Hid (Nr.new 4 1000 = c) ∧ c.wear.length = 4 := ⟨_, rfl, rfl⟩
    have HC := Lib.hid hcell
    have HK := Lib.hid hk
    have HT := Lib.hid ht
    have HV := Lib.hid hv
    clear hcell hb hk ht hv
    go_enter Try.func7, Try.ntmps7
    go_wp2_with (first | (go_at_call 11; refine (Nor.alive_c _).mono ?_; rintro e w1 ⟨rfl, b1⟩) | (go_at_call 12; refine (Nor.new_o b1 (n := 4) (endure := 1000) (by decide) (by decide) (by decide) (Lib.hid (by decide)) H0).mono ?_; rintro e w2 ⟨g, bw, be, rfl, h1⟩))
    go_loopw [20] (fun i wr => ∃ (j : Nat) (c : Nr.C), j ≤ len0 ∧ i = .int .i64 j ∧ Own w wr g bw be c ∧ c.wear.length = 4) (fun i _ => len0 - (intOf i).toNat)
    case atStart => exact ⟨0, c0, Nat.zero_le _, rfl, h1, x1⟩
    case round =>
      obtain ⟨j, c, hj, rfl, hO, y1⟩ := hrel
      by_cases hlt : ¬ j < len0
      · have hlt2 : (len0 : Int) ≤ (j : Int) := by omega
        go_wp2
        go_ret
        exact ⟨rfl, hO.below⟩
      replace hlt : j < len0 := by omega
      obtain rfl := ha j hlt
      obtain ⟨q0, q1, q2⟩ := HC.out j hlt
      replace q0 := Sl.below_cell hO.below q0
      replace q1 := Sl.below_cell hO.below q1
      replace q2 := Sl.below_cell hO.below q2
      have hlt2 : (j : Int) < (len0 : Int) := by omega
      have hk := HK.out j
      have ht := HT.out j
      have hv := HV.out j
      generalize ks j = kk at *
      generalize ts j = tt at *
      generalize vs j = vv at *
      have hOA : Own w (wr.alloc (.cells #[.int .u8 kk, .int .i64 tt, .int .u32 vv] 44)) g bw be c := hO.then ((Below.refl _ wr).alloc (Nat.le_refl _) _)
      have bA0 : (wr.alloc (.cells #[.int .u8 kk, .int .i64 tt, .int .u32 vv] 44)).cell? ⟨wr.heap.size, 0, none⟩ = some (.int .u8 kk) := World.cell?_alloc_mark wr #[.int .u8 kk, .int .i64 tt, .int .u32 vv] 44 (0, 0) 0
      have bA1 : (wr.alloc (.cells #[.int .u8 kk, .int .i64 tt, .int .u32 vv] 44)).cell? ⟨wr.heap.size, 1, none⟩ = some (.int .i64 tt) := World.cell?_alloc_mark wr #[.int .u8 kk, .int .i64 tt, .int .u32 vv] 44 (0, 0) 1
      have bA2 : (wr.alloc (.cells #[.int .u8 kk, .int .i64 tt, .int .u32 vv] 44)).cell? ⟨wr.heap.size, 2, none⟩ = some (.int .u32 vv) := World.cell?_alloc_mark wr #[.int .u8 kk, .int .i64 tt, .int .u32 vv] 44 (0, 0) 2
      have hsz : (wr.alloc (.cells #[.int .u8 kk, .int .i64 tt, .int .u32 vv] 44)).heap.size = wr.heap.size + 1 := by simp
      have hlt3 := hO.chip.lt
      have hT : ¬ Nor.Three g bw be wr.heap.size := by unfold Nor.Three; omega
      have hTr : ∀ r, (wr.alloc (.cells #[.int .u8 kk, .int .i64 tt, .int .u32 vv] 44)).heap.size ≤ r → ¬ Nor.Three g bw be r := by intro r hr; unfold Nor.Three; omega
      by_cases e3 : kk % 8 = 3
      · clear hb'

        obtain ⟨ee, c', q, z1, z2, z3⟩ := Nr.spares_erase hO.chip.ok tt
        have hl1 : (c.words.length : Int) = 256 := by have := hO.chip.ok.size; omega
        have hl2 : (c'.words.length : Int) = 256 := by omega
        have hwd := Nor.words_o hOA (zs := c.words) rfl
        go_wp2_with (first | (go_at_call 19; refine hwd.mono ?_; rintro e w4 ⟨r1, kap1, rfl, p1, p2, p3, hO1, p5⟩; clear hwd hOA; have b0 := Sl.below_cell p5 bA0; have b1 := Sl.below_cell p5 bA1; have b2 := Sl.below_cell p5 bA2) |
          (go_at_call 13; refine (Nor.erase_k hO1 q).mono ?_; rintro e w5 ⟨rfl, hO2, hK⟩; clear hO1; replace b0 := cell_keep hK b0 hT; replace b1 := cell_keep hK b1 hT; replace b2 := cell_keep hK b2 hT; replace p3 := p3.keep hK (hTr _ p2)) |
          (go_at_call 19; refine (Nor.words_o hO2 (zs := c'.words) rfl).mono ?_; rintro e w6 ⟨r2, kap2, rfl, s1, s2, s3, hO3, s5⟩; clear hO2; replace b0 := Sl.below_cell s5 b0; replace b1 := Sl.below_cell s5 b1; replace b2 := Sl.below_cell s5 b2; replace p3 := p3.below s5))
        generalize c.words = us at *
        generalize c'.words = vs' at *
        generalize wr.heap.size = B at *
        go_loopw [57] (fun i wq => ∃ m : Nat, m ≤ 256 ∧ i = .int .i64 m ∧ Own w wq g bw be c' ∧ Row wq r1 us ∧ Row wq r2 vs' ∧ wq.cell? ⟨B, 0, none⟩ = some (.int .u8 kk) ∧ wq.cell? ⟨B, 1, none⟩ = some (.int .i64 tt)) (fun i _ => 256 - (intOf i).toNat)
        case atStart => exact ⟨0, by omega, rfl, hO3, p3, s3, b0, b1⟩
        case round =>
          obtain ⟨m, hm, rfl, t1, t2, t3, t4, t5⟩ := hrel
          by_cases hm2 : m < 256
          · have hm3 : (m : Int) < 256 := by omega
            have y2 := t2.cell (i := m) (by omega)
            have y3 := t3.cell (i := m) (by omega)
            have hs := z3.out m (by omega)
            generalize us.getD m 0 = u at y2 hs
            generalize vs'.getD m 0 = v at y3 hs
            rcases hs with ⟨hE, hd⟩ | ⟨hd1, hd⟩
            · have hd2 : (m : Int) / 64 = tt := by rw [Int.tdiv_eq_ediv_of_nonneg (by omega)] at hd; exact hd
              clear hd hE hm hj hm2 hlt ht hv
              go_wp2
              all_goals go_roundw
              all_goals first | (exact ⟨m + 1, by omega, by go_num, t1, t2, t3, t4, t5⟩) | (simp [intOf]; try omega)
            · rcases hd with hd | hd
              · subst hd
                clear hm hj hm2 hlt hv
                go_wp2
                all_goals go_roundw
                all_goals first | (exact ⟨m + 1, by omega, by go_num, t1, t2, t3, t4, t5⟩) | (simp [intOf]; try omega)
              · subst hd
                clear hm hj hm2 hlt hv
                go_wp2
                all_goals go_roundw
                all_goals first | (exact ⟨m + 1, by omega, by go_num, t1, t2, t3, t4, t5⟩) | (simp [intOf]; try omega)
          · have hm3 : (256 : Int) ≤ (m : Int) := by omega
            clear b0 b1 s3 p3 hm hm2
            go_wp2
            go_roundw
            case rel => exact ⟨j + 1, c', by omega, by go_num, t1, by omega⟩
            case measure => simp [intOf]; omega
      have f3 : (kk % 8 == 3) = false := by simpa using e3
      clear e3
      by_cases e5 : kk % 8 = 5
      · clear hb'

        obtain ⟨ee, c', q, z1, z2, z3⟩ := Nr.spares_fuse hO.chip.ok tt vv
        have hl1 : (c.words.length : Int) = 256 := by have := hO.chip.ok.size; omega
        have hl2 : (c'.words.length : Int) = 256 := by omega
        have hwd := Nor.words_o hOA (zs := c.words) rfl
        go_wp2_with (first | (go_at_call 19; refine hwd.mono ?_; rintro e w4 ⟨r1, kap1, rfl, p1, p2, p3, hO1, p5⟩; clear hwd hOA; have b0 := Sl.below_cell p5 bA0; have b1 := Sl.below_cell p5 bA1; have b2 := Sl.below_cell p5 bA2) |
          (go_at_call 22; refine (Nor.fuse_k hO1 (Lib.hid ht.2) hv.1 hv.2 q).mono ?_; rintro e w5 ⟨rfl, hO2, hK⟩; clear hO1; replace b0 := cell_keep hK b0 hT; replace b1 := cell_keep hK b1 hT; replace b2 := cell_keep hK b2 hT; replace p3 := p3.keep hK (hTr _ p2)) |
          (go_at_call 19; refine (Nor.words_o hO2 (zs := c'.words) rfl).mono ?_; rintro e w6 ⟨r2, kap2, rfl, s1, s2, s3, hO3, s5⟩; clear hO2; replace b0 := Sl.below_cell s5 b0; replace b1 := Sl.below_cell s5 b1; replace b2 := Sl.below_cell s5 b2; replace p3 := p3.below s5))
        generalize c.words = us at *
        generalize c'.words = vs' at *
        generalize wr.heap.size = B at *
        go_loopw [57] (fun i wq => ∃ m : Nat, m ≤ 256 ∧ i = .int .i64 m ∧ Own w wq g bw be c' ∧ Row wq r1 us ∧ Row wq r2 vs' ∧ wq.cell? ⟨B, 0, none⟩ = some (.int .u8 kk) ∧ wq.cell? ⟨B, 1, none⟩ = some (.int .i64 tt)) (fun i _ => 256 - (intOf i).toNat)
        case atStart => exact ⟨0, by omega, rfl, hO3, p3, s3, b0, b1⟩
        case round =>
          obtain ⟨m, hm, rfl, t1, t2, t3, t4, t5⟩ := hrel
          by_cases hm2 : m < 256
          · have hm3 : (m : Int) < 256 := by omega
            have y2 := t2.cell (i := m) (by omega)
            have y3 := t3.cell (i := m) (by omega)
            have hs := z3.out m (by omega)
            generalize us.getD m 0 = u at y2 hs
            generalize vs'.getD m 0 = v at y3 hs
            rcases hs with ⟨hE, hd⟩ | ⟨hd1, hd⟩
            · cases hE
            · rcases hd with hd | hd
              · subst hd
                clear hm hj hm2 hlt hv
                go_wp2
                all_goals go_roundw
                all_goals first | (exact ⟨m + 1, by omega, by go_num, t1, t2, t3, t4, t5⟩) | (simp [intOf]; try omega)
              · subst hd
                clear hm hj hm2 hlt hv
                go_wp2
                all_goals go_roundw
                all_goals first | (exact ⟨m + 1, by omega, by go_num, t1, t2, t3, t4, t5⟩) | (simp [intOf]; try omega)
          · have hm3 : (256 : Int) ≤ (m : Int) := by omega
            clear b0 b1 s3 p3 hm hm2
            go_wp2
            go_roundw
            case rel => exact ⟨j + 1, c', by omega, by go_num, t1, by omega⟩
            case measure => simp [intOf]; omega
      have f5 : (kk % 8 == 5) = false := by simpa using e5
      clear e5
      by_cases e6 : kk % 8 = 6
      · clear hb'

        obtain ⟨ee, c', q, z1, z2, z3⟩ := Nr.spares_on hO.chip.ok tt
        have hl1 : (c.words.length : Int) = 256 := by have := hO.chip.ok.size; omega
        have hl2 : (c'.words.length : Int) = 256 := by omega
        have hwd := Nor.words_o hOA (zs := c.words) rfl
        go_wp2_with (first | (go_at_call 19; refine hwd.mono ?_; rintro e w4 ⟨r1, kap1, rfl, p1, p2, p3, hO1, p5⟩; clear hwd hOA; have b0 := Sl.below_cell p5 bA0; have b1 := Sl.below_cell p5 bA1; have b2 := Sl.below_cell p5 bA2) |
          (go_at_call 23; refine (Nor.on_k hO1 q).mono ?_; rintro e w5 ⟨rfl, hO2, hK⟩; clear hO1; replace b0 := cell_keep hK b0 hT; replace b1 := cell_keep hK b1 hT; replace b2 := cell_keep hK b2 hT; replace p3 := p3.keep hK (hTr _ p2)) |
          (go_at_call 19; refine (Nor.words_o hO2 (zs := c'.words) rfl).mono ?_; rintro e w6 ⟨r2, kap2, rfl, s1, s2, s3, hO3, s5⟩; clear hO2; replace b0 := Sl.below_cell s5 b0; replace b1 := Sl.below_cell s5 b1; replace b2 := Sl.below_cell s5 b2; replace p3 := p3.below s5))
        generalize c.words = us at *
        generalize c'.words = vs' at *
        generalize wr.heap.size = B at *
        go_loopw [57] (fun i wq => ∃ m : Nat, m ≤ 256 ∧ i = .int .i64 m ∧ Own w wq g bw be c' ∧ Row wq r1 us ∧ Row wq r2 vs' ∧ wq.cell? ⟨B, 0, none⟩ = some (.int .u8 kk) ∧ wq.cell? ⟨B, 1, none⟩ = some (.int .i64 tt)) (fun i _ => 256 - (intOf i).toNat)
        case atStart => exact ⟨0, by omega, rfl, hO3, p3, s3, b0, b1⟩
        case round =>
          obtain ⟨m, hm, rfl, t1, t2, t3, t4, t5⟩ := hrel
          by_cases hm2 : m < 256
          · have hm3 : (m : Int) < 256 := by omega
            have y2 := t2.cell (i := m) (by omega)
            have y3 := t3.cell (i := m) (by omega)
            have hs := z3.out m (by omega)
            generalize us.getD m 0 = u at y2 hs
            generalize vs'.getD m 0 = v at y3 hs
            rcases hs with ⟨hE, hd⟩ | ⟨hd1, hd⟩
            · cases hE
            · rcases hd with hd | hd
              · subst hd
                clear hm hj hm2 hlt hv
                go_wp2
                all_goals go_roundw
                all_goals first | (exact ⟨m + 1, by omega, by go_num, t1, t2, t3, t4, t5⟩) | (simp [intOf]; try omega)
              · subst hd
                clear hm hj hm2 hlt hv
                go_wp2
                all_goals go_roundw
                all_goals first | (exact ⟨m + 1, by omega, by go_num, t1, t2, t3, t4, t5⟩) | (simp [intOf]; try omega)
          · have hm3 : (256 : Int) ≤ (m : Int) := by omega
            clear b0 b1 s3 p3 hm hm2
            go_wp2
            go_roundw
            case rel => exact ⟨j + 1, c', by omega, by go_num, t1, by omega⟩
            case measure => simp [intOf]; omega
      have f6 : (kk % 8 == 6) = false := by simpa using e6
      clear e6
      by_cases e7 : kk % 8 = 7
      · clear hb'

        obtain ⟨ee, c', q, z1, z2, z3⟩ := Nr.spares_on hO.chip.ok tt
        have hl1 : (c.words.length : Int) = 256 := by have := hO.chip.ok.size; omega
        have hl2 : (c'.words.length : Int) = 256 := by omega
        have hwd := Nor.words_o hOA (zs := c.words) rfl
        go_wp2_with (first | (go_at_call 19; refine hwd.mono ?_; rintro e w4 ⟨r1, kap1, rfl, p1, p2, p3, hO1, p5⟩; clear hwd hOA; have b0 := Sl.below_cell p5 bA0; have b1 := Sl.below_cell p5 bA1; have b2 := Sl.below_cell p5 bA2) |
          (go_at_call 23; refine (Nor.on_k hO1 q).mono ?_; rintro e w5 ⟨rfl, hO2, hK⟩; clear hO1; replace b0 := cell_keep hK b0 hT; replace b1 := cell_keep hK b1 hT; replace b2 := cell_keep hK b2 hT; replace p3 := p3.keep hK (hTr _ p2)) |
          (go_at_call 19; refine (Nor.words_o hO2 (zs := c'.words) rfl).mono ?_; rintro e w6 ⟨r2, kap2, rfl, s1, s2, s3, hO3, s5⟩; clear hO2; replace b0 := Sl.below_cell s5 b0; replace b1 := Sl.below_cell s5 b1; replace b2 := Sl.below_cell s5 b2; replace p3 := p3.below s5))
        generalize c.words = us at *
        generalize c'.words = vs' at *
        generalize wr.heap.size = B at *
        go_loopw [57] (fun i wq => ∃ m : Nat, m ≤ 256 ∧ i = .int .i64 m ∧ Own w wq g bw be c' ∧ Row wq r1 us ∧ Row wq r2 vs' ∧ wq.cell? ⟨B, 0, none⟩ = some (.int .u8 kk) ∧ wq.cell? ⟨B, 1, none⟩ = some (.int .i64 tt)) (fun i _ => 256 - (intOf i).toNat)
        case atStart => exact ⟨0, by omega, rfl, hO3, p3, s3, b0, b1⟩
        case round =>
          obtain ⟨m, hm, rfl, t1, t2, t3, t4, t5⟩ := hrel
          by_cases hm2 : m < 256
          · have hm3 : (m : Int) < 256 := by omega
            have y2 := t2.cell (i := m) (by omega)
            have y3 := t3.cell (i := m) (by omega)
            have hs := z3.out m (by omega)
            generalize us.getD m 0 = u at y2 hs
            generalize vs'.getD m 0 = v at y3 hs
            rcases hs with ⟨hE, hd⟩ | ⟨hd1, hd⟩
            · cases hE
            · rcases hd with hd | hd
              · subst hd
                clear hm hj hm2 hlt hv
                go_wp2
                all_goals go_roundw
                all_goals first | (exact ⟨m + 1, by omega, by go_num, t1, t2, t3, t4, t5⟩) | (simp [intOf]; try omega)
              · subst hd
                clear hm hj hm2 hlt hv
                go_wp2
                all_goals go_roundw
                all_goals first | (exact ⟨m + 1, by omega, by go_num, t1, t2, t3, t4, t5⟩) | (simp [intOf]; try omega)
          · have hm3 : (256 : Int) ≤ (m : Int) := by omega
            clear b0 b1 s3 p3 hm hm2
            go_wp2
            go_roundw
            case rel => exact ⟨j + 1, c', by omega, by go_num, t1, by omega⟩
            case measure => simp [intOf]; omega
      have f7 : (kk % 8 == 7) = false := by simpa using e7
      clear e7

      obtain ⟨ee, c', q, z1, z2, z3⟩ := Nr.spares_program hO.chip.ok tt hv.1 hv.2
      have hl1 : (c.words.length : Int) = 256 := by have := hO.chip.ok.size; omega
      have hl2 : (c'.words.length : Int) = 256 := by omega
      have hwd := Nor.words_o hOA (zs := c.words) rfl
      go_wp2_with (first | (go_at_call 19; refine hwd.mono ?_; rintro e w4 ⟨r1, kap1, rfl, p1, p2, p3, hO1, p5⟩; clear hwd hOA; have b0 := Sl.below_cell p5 bA0; have b1 := Sl.below_cell p5 bA1; have b2 := Sl.below_cell p5 bA2) |
        (go_at_call 14; refine (Nor.program_k hO1 hv.1 hv.2 q).mono ?_; rintro e w5 ⟨rfl, hO2, hK⟩; clear hO1; replace b0 := cell_keep hK b0 hT; replace b1 := cell_keep hK b1 hT; replace b2 := cell_keep hK b2 hT; replace p3 := p3.keep hK (hTr _ p2)) |
        (go_at_call 19; refine (Nor.words_o hO2 (zs := c'.words) rfl).mono ?_; rintro e w6 ⟨r2, kap2, rfl, s1, s2, s3, hO3, s5⟩; clear hO2; replace b0 := Sl.below_cell s5 b0; replace b1 := Sl.below_cell s5 b1; replace b2 := Sl.below_cell s5 b2; replace p3 := p3.below s5))
      generalize c.words = us at *
      generalize c'.words = vs' at *
      generalize wr.heap.size = B at *
      go_loopw [57] (fun i wq => ∃ m : Nat, m ≤ 256 ∧ i = .int .i64 m ∧ Own w wq g bw be c' ∧ Row wq r1 us ∧ Row wq r2 vs' ∧ wq.cell? ⟨B, 0, none⟩ = some (.int .u8 kk) ∧ wq.cell? ⟨B, 1, none⟩ = some (.int .i64 tt)) (fun i _ => 256 - (intOf i).toNat)
      case atStart => exact ⟨0, by omega, rfl, hO3, p3, s3, b0, b1⟩
      case round =>
        obtain ⟨m, hm, rfl, t1, t2, t3, t4, t5⟩ := hrel
        by_cases hm2 : m < 256
        · have hm3 : (m : Int) < 256 := by omega
          have y2 := t2.cell (i := m) (by omega)
          have y3 := t3.cell (i := m) (by omega)
          have hs := z3.out m (by omega)
          generalize us.getD m 0 = u at y2 hs
          generalize vs'.getD m 0 = v at y3 hs
          rcases hs with ⟨hE, hd⟩ | ⟨hd1, hd⟩
          · cases hE
          · rcases hd with hd | hd
            · subst hd
              clear hm hj hm2 hlt hv
              go_wp2
              all_goals go_roundw
              all_goals first | (exact ⟨m + 1, by omega, by go_num, t1, t2, t3, t4, t5⟩) | (simp [intOf]; try omega)
            · subst hd
              clear hm hj hm2 hlt hv
              go_wp2
              all_goals go_roundw
              all_goals first | (exact ⟨m + 1, by omega, by go_num, t1, t2, t3, t4, t5⟩) | (simp [intOf]; try omega)
        · have hm3 : (256 : Int) ≤ (m : Int) := by omega
          clear b0 b1 s3 p3 hm hm2
          go_wp2
          go_roundw
          case rel => exact ⟨j + 1, c', by omega, by go_num, t1, by omega⟩
          case measure => simp [intOf]; omega
end L02Cells
end Go.Proofs.Ytmaakjabjpppkaa
