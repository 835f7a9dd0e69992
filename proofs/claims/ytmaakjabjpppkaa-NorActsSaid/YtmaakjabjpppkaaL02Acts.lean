/- NorActs: a chip answers every call, in every order, as the document says, and has behind each the document's words. No condition. -/
import Derived.Test.YtmaakjabjpppkaaRnor12
import Derived.Deep.QuietTactic
import Derived.BigQuiet
namespace Go.Proofs.Ytmaakjabjpppkaa
open Go.RowKit
set_option linter.unusedVariables false
attribute [local go_sem] max2_int min2_int max_two min_two
namespace L02Acts
theorem undrew {k : Nat} {w w' : World} (b : Below k w.drew w') : Below k w w' := ⟨b.os, b.tape, b.output, b.size, b.block⟩
/-- Where the law has come to: a chip, the document's, and its box. -/
structure Inv (w wr : World) (N n g bw be rw_ rkw re rke : Nat) (c : Nr.C) : Prop where
  both : Does2.Both w wr g bw be rw_ rkw re rke c
  len : Hid (c.wear.length = n)
  box : Hid (wr.heap[N]? = some (.cells #[.slice (some ⟨rw_, 0, none⟩) c.words.length rkw, .slice (some ⟨re, 0, none⟩) c.wear.length rke, .int .i64 c.endure, .int .i64 c.fuse, .int .u32 c.pick, .bool c.off] 49 (0, 0)))
  lt : g < N ∧ bw < N ∧ be < N
  wN : w.heap.size ≤ N
theorem both_below {w0 w w' : World} {g bw be rw_ rkw re rke : Nat} {c : Nr.C} (h : Does2.Both w0 w g bw be rw_ rkw re rke c) (b : Below w.heap.size w w') : Does2.Both w0 w' g bw be rw_ rkw re rke c := ⟨h.own.then b, h.ref.below b, h.n1, h.n2⟩
theorem Inv.below {w wr w' : World} {N n g bw be rw_ rkw re rke : Nat} {c : Nr.C} (h : Inv w wr N n g bw be rw_ rkw re rke c) (b : Below wr.heap.size wr w') : Inv w w' N n g bw be rw_ rkw re rke c :=
  ⟨both_below h.both b, h.len, Lib.hid ((b.block _ (Array.getElem?_eq_some_iff.1 h.box.out).1).trans h.box.out), h.lt, h.wN⟩
theorem wear_q {w0 w : World} {g bw be : Nat} {c : Nr.C} (h : Own w0 w g bw be c) {b n : Int} (q : Hid (Nr.worn c b = n)) :
    Calls Try.prog 15 #[.pointer (some ⟨g, 0, none⟩), .int .i64 b] w fun x w' => x = .returned (.int .i64 n) ∧ w' = w := (Nor.wear_o h q).mono fun x w' ⟨e1, e2⟩ => ⟨e1, e2.symm⟩
theorem blocks_q {w0 w : World} {g bw be : Nat} {c : Nr.C} (h : Own w0 w g bw be c) {n : Int} (q : Hid ((c.wear.length : Int) = n)) :
    Calls Try.prog 21 #[.pointer (some ⟨g, 0, none⟩)] w fun x w' => x = .returned (.int .i64 n) ∧ w' = w := (Nor.blocks_o h q).mono fun x w' ⟨e1, e2⟩ => ⟨e1, e2.symm⟩
theorem inv_drewN {w wr : World} {N n g bw be rw_ rkw re rke : Nat} {c : Nr.C} (h : Inv w wr N n g bw be rw_ rkw re rke c) (m : Nat) : Inv w (wr.drewN m) N n g bw be rw_ rkw re rke c := h.below (Rnor.drewN_below (Below.refl _ _) m)
theorem three_N {N g bw be : Nat} (h : g < N ∧ bw < N ∧ be < N) : ¬ Nor.Three g bw be N := by unfold Nor.Three; omega
/-- The document's chip is laid into its box. -/
theorem Inv.next {w wr w4 : World} {N n g bw be rw_ rkw re rke a kap a2 kap2 : Nat} {c c' : Nr.C} (h : Inv w wr N n g bw be rw_ rkw re rke c) (hB : Does2.Both w w4 g bw be a kap a2 kap2 c') (hK : Keep (Nor.Three g bw be) wr w4) (hn : c'.wear.length = c.wear.length) (o : Obj) :
    Inv w (((((((w4.alloc o).setCell ⟨N, 0, none⟩ (.slice (some ⟨a, 0, none⟩) c'.words.length kap)).setCell ⟨N, 1, none⟩ (.slice (some ⟨a2, 0, none⟩) c'.wear.length kap2)).setCell ⟨N, 2, none⟩ (.int .i64 c'.endure)).setCell ⟨N, 3, none⟩ (.int .i64 c'.fuse)).setCell ⟨N, 4, none⟩ (.int .u32 c'.pick)).setCell ⟨N, 5, none⟩ (.bool c'.off)) N n g bw be a kap a2 kap2 c' := by
  have e4 := Rnor.heap_al ((hK.block N (Array.getElem?_eq_some_iff.1 h.box.out).1 (three_N h.lt)).trans h.box.out) o
  have B := both_below hB (alloc1_below w4 o)
  generalize w4.alloc o = W at *
  have K1 : Keep (fun r => r = N) W ((((((W.setCell ⟨N, 0, none⟩ (.slice (some ⟨a, 0, none⟩) c'.words.length kap)).setCell ⟨N, 1, none⟩ (.slice (some ⟨a2, 0, none⟩) c'.wear.length kap2)).setCell ⟨N, 2, none⟩ (.int .i64 c'.endure)).setCell ⟨N, 3, none⟩ (.int .i64 c'.fuse)).setCell ⟨N, 4, none⟩ (.int .u32 c'.pick)).setCell ⟨N, 5, none⟩ (.bool c'.off)) := by
    have st : ∀ (V : World) (j : Nat) (x : Value), Keep (fun r => r = N) W V → Keep (fun r => r = N) W (V.setCell ⟨N, j, none⟩ x) := fun V j x h => h.setCell (p := ⟨N, j, none⟩) (.inl rfl) x
    exact st _ _ _ (st _ _ _ (st _ _ _ (st _ _ _ (st _ _ _ (st _ _ _ (Keep.refl _ _))))))
  have E := put6 e4 (.slice (some ⟨a, 0, none⟩) c'.words.length kap) (.slice (some ⟨a2, 0, none⟩) c'.wear.length kap2) (.int .i64 c'.endure) (.int .i64 c'.fuse) (.int .u32 c'.pick) (.bool c'.off)
  generalize (((((W.setCell ⟨N, 0, none⟩ (.slice (some ⟨a, 0, none⟩) c'.words.length kap)).setCell ⟨N, 1, none⟩ (.slice (some ⟨a2, 0, none⟩) c'.wear.length kap2)).setCell ⟨N, 2, none⟩ (.int .i64 c'.endure)).setCell ⟨N, 3, none⟩ (.int .i64 c'.fuse)).setCell ⟨N, 4, none⟩ (.int .u32 c'.pick)).setCell ⟨N, 5, none⟩ (.bool c'.off) = W5 at *
  have hl := h.lt
  have hN := h.wN
  have O := B.own
  refine ⟨⟨⟨O.chip.keep K1 (by omega) (by omega) (by omega), O.lg, O.lw, O.le, ?_⟩, B.ref.keep K1 ?_ ?_, B.n1, B.n2⟩, Lib.hid (hn.trans h.len.out), Lib.hid E, h.lt, h.wN⟩
  · exact ⟨K1.os.trans O.below.os, K1.tape.trans O.below.tape, K1.output.trans O.below.output, Nat.le_trans O.below.size K1.size, fun r hr => (K1.block r (Nat.lt_of_lt_of_le hr O.below.size) (by omega)).trans (O.below.block r hr)⟩
  · intro d
    obtain ⟨cur, ea, hc⟩ := B.ref.words
    rw [d, e4] at ea
    cases ea
  · intro d
    obtain ⟨cur, ea, hc⟩ := B.ref.wear
    rw [d, e4] at ea
    cases ea
set_option maxHeartbeats 2000000 in
set_option maxRecDepth 100000 in
theorem NorActs_c (a0 : Int) (a1 : Int) (a2 : Option Addr) (len2 cap2 : Nat) (w : World) (w0 : (Lit.int .u8 a0).wf = true) (w1 : (Lit.int .u8 a1).wf = true) (s2 : Sh.ok w (.slice 3 (.agg 3 [(0, 1, .int .u8), (1, 1, .int .i64), (2, 1, .int .u32)])) [.slice a2 len2 cap2]) :
    Calls Try.prog 9 #[.int .u8 a0, .int .u8 a1, .slice a2 len2 cap2] w fun e w' => e = .returned (.bool true) ∧ Below w.heap.size w w' := by
  obtain ⟨ks, ts, vs, b, off, hcap, hmax, hk, ht, hv, ha, hcell⟩ := acts_of s2
  have r0 := wf_u8 w0
  have r1 := wf_u8 w1
  clear s2 w0 w1
  by_cases hb : (60 : Int) < (len2 : Int)
  · go_enter Try.func9, Try.ntmps9
    go_wp2_with (first | (go_at_call 11; refine (Nor.alive_c _).mono ?_; rintro e w1 ⟨rfl, b1⟩))
    go_ret
    exact ⟨rfl, b1⟩
  · have hb' : (len2 : Int) ≤ 60 := by omega
    obtain ⟨n, hn, n1, n2⟩ : ∃ n : Nat, Hid (1 + a0 % 4 = (n : Int)) ∧ 1 ≤ n ∧ n ≤ 4 := ⟨(1 + a0 % 4).toNat, Lib.hid (by omega), by omega, by omega⟩
    obtain ⟨en, he, e1, e2⟩ : ∃ en : Int, Hid (a1 % 4 = en) ∧ 0 ≤ en ∧ en ≤ 3 := ⟨a1 % 4, Lib.hid rfl, by omega, by omega⟩
    obtain ⟨c0, H0, x1⟩ : ∃ c, Hid (Nr.new n en = c) ∧ c.wear.length = n := ⟨_, Lib.hid rfl, by simp [Nr.new]⟩
    have HC := Lib.hid hcell
    have HK := Lib.hid hk
    have HT := Lib.hid ht
    have HV := Lib.hid hv
    have X1 := Lib.hid x1
    clear hcell hb hk ht hv x1
    go_enter Try.func9, Try.ntmps9
    go_wp2_with (first | (go_at_call 11; refine (Nor.alive_c _).mono ?_; rintro e w1 ⟨rfl, b1⟩) | (go_at_call 12; rw [hn.out, he.out]; refine (Nor.new_o b1 (n := n) (endure := en) n1 (by omega) e1 (Lib.hid (by omega)) H0).mono ?_; rintro e w2 ⟨g, bw, be, rfl, h1⟩) | (go_at_call 24; rw [hn.out, he.out]; refine (Rnor.new_c (n := n) (endure := en) n1 (by omega) e1 (Lib.hid (by omega)) H0).mono ?_; simp only [Rnor.rv_eq]; rintro e w3 ⟨rw_, rkw, re, rke, rfl, h2, h3, h4, h5⟩))
    have hl1 := h1.chip.lt
    have hb2 := h1.below.size
    have M0 : Inv w (w3.alloc (.cells #[.slice (some ⟨rw_, 0, none⟩) c0.words.length rkw, .slice (some ⟨re, 0, none⟩) c0.wear.length rke, .int .i64 c0.endure, .int .i64 c0.fuse, .int .u32 c0.pick, .bool c0.off] 49)) w3.heap.size n g bw be rw_ rkw re rke c0 :=
      ⟨both_below ⟨h1.then h5, h2, by unfold Nor.Three; omega, by unfold Nor.Three; omega⟩ (alloc1_below _ _), X1, Lib.hid (heap_alloc_new _ _), by have := h5.size; omega, by have := h5.size; omega⟩
    generalize w3.heap.size = N at *
    generalize w3.alloc (.cells #[.slice (some ⟨rw_, 0, none⟩) c0.words.length rkw, .slice (some ⟨re, 0, none⟩) c0.wear.length rke, .int .i64 c0.endure, .int .i64 c0.fuse, .int .u32 c0.pick, .bool c0.off] 49) = W0 at *
    clear h1 h2 h3 h4 h5 hl1 hb2
    go_loopw [39] (fun i wr => ∃ (j rw_ rkw re rke : Nat) (c : Nr.C), j ≤ len2 ∧ i = .int .i64 j ∧ Inv w wr N n g bw be rw_ rkw re rke c) (fun i _ => len2 - (intOf i).toNat)
    case atStart => exact ⟨0, rw_, rkw, re, rke, c0, Nat.zero_le _, rfl, M0⟩
    case round =>
      obtain ⟨j, rw_, rkw, re, rke, c, hj, rfl, hI⟩ := hrel
      by_cases hlt : ¬ j < len2
      · have hlt2 : (len2 : Int) ≤ (j : Int) := by omega
        have x1 := (cells6 hI.box.out).2.1
        have hw1 := fun m => wear_q (hI.both.own.drewN m) (b := -1) (n := 0) (Lib.hid rfl)
        have hw2 := fun m => wear_q (hI.both.own.drewN m) (b := (c.wear.length : Int)) (n := 0) (Lib.hid (by unfold Nr.worn; rw [if_neg (by omega), Int.toNat_natCast]; simp [List.getD]))
        have hw3 := fun m => blocks_q (hI.both.own.drewN m) (n := (c.wear.length : Int)) (Lib.hid rfl)
        go_wp2
        go_quiet ((first | (go_at_call 15; with_reducible exact Calls.quiet_of_same (hw1 _)) | (go_at_call 15; with_reducible exact Calls.quiet_of_same (hw2 _)) | (go_at_call 21; with_reducible exact Calls.quiet_of_same (hw3 _))))
        go_wp2
        go_ret
        exact ⟨rfl, (inv_drewN hI _).both.own.below⟩
      replace hlt : j < len2 := by omega
      obtain rfl := ha j hlt
      obtain ⟨q0, q1, q2⟩ := HC.out j hlt
      replace q0 := Sl.below_cell hI.both.own.below q0
      replace q1 := Sl.below_cell hI.both.own.below q1
      replace q2 := Sl.below_cell hI.both.own.below q2
      have hlt2 : (j : Int) < (len2 : Int) := by omega
      have hk := HK.out j
      have ht := HT.out j
      have hv := HV.out j
      generalize ks j = kk at *
      generalize ts j = tt at *
      generalize vs j = vv at *
      have xx := fun o => cells6 (Rnor.heap_al hI.box.out o)
      have hdo := fun o => Does2.does_c (both_below hI.both (alloc1_below wr o)) hk ht hv
      simp only [Rnor.rv_eq] at hdo
      go_wp2_with (go_at_call 25; refine (hdo _).mono ?_; rintro x w4 ⟨c', a, kap, a2, kap2, rfl, hB, hK, hwl⟩; clear xx hdo; have HWL := Lib.hid hwl; clear hwl; have hK4 := ((Keep.refl (Nor.Three g bw be) wr).alloc _).trans hK; clear hK; have E4 := Lib.hid ((hK4.block N (Array.getElem?_eq_some_iff.1 hI.box.out).1 (three_N hI.lt)).trans hI.box.out); have yy := fun o => cells6 (Rnor.heap_al E4.out o))
      have hI2 := hI.next hB hK4 HWL.out (.cells #[.slice (some ⟨a, 0, none⟩) c'.words.length kap, .slice (some ⟨a2, 0, none⟩) c'.wear.length kap2, .int .i64 c'.endure, .int .i64 c'.fuse, .int .u32 c'.pick, .bool c'.off] 49)
      generalize ((((((w4.alloc (.cells #[.slice (some ⟨a, 0, none⟩) c'.words.length kap, .slice (some ⟨a2, 0, none⟩) c'.wear.length kap2, .int .i64 c'.endure, .int .i64 c'.fuse, .int .u32 c'.pick, .bool c'.off] 49)).setCell ⟨N, 0, none⟩ (.slice (some ⟨a, 0, none⟩) c'.words.length kap)).setCell ⟨N, 1, none⟩ (.slice (some ⟨a2, 0, none⟩) c'.wear.length kap2)).setCell ⟨N, 2, none⟩ (.int .i64 c'.endure)).setCell ⟨N, 3, none⟩ (.int .i64 c'.fuse)).setCell ⟨N, 4, none⟩ (.int .u32 c'.pick)).setCell ⟨N, 5, none⟩ (.bool c'.off) = W5 at *
      clear yy E4 hK4 HWL hB hI q0 q1 q2 hk ht hv
      obtain ⟨x0, x1, x2, x3, x4, x5, xf⟩ := cells6 hI2.box.out
      have d0 := Does2.drew_cell x0
      have d5 := Does2.drew_cell x5
      have hsz : c'.words.length ≤ 4096 := by have := hI2.both.ref.ok.size; have := hI2.both.ref.ok.most; omega
      have HU : ∃ o, Hid (c'.off = o) := ⟨_, Lib.hid rfl⟩
      obtain ⟨o, ho⟩ := HU
      rw [ho.out] at x5 d5
      have hO2 : Own w W5.drew g bw be c' := hI2.both.own.drewN 1
      have hup := Nor.up_o (b := !o) hO2 (Lib.hid (by rw [ho.out]))
      have hwd := Nor.words_o hO2 (zs := c'.words) (Lib.hid rfl)
      cases o
      · go_region_held3 (fun W => W.cell? ⟨N, 0, none⟩ = some (.slice (some ⟨a, 0, none⟩) c'.words.length kap) ∧ W.cell? ⟨N, 5, none⟩ = some (.bool false)) (first | (with_reducible exact ⟨d0, d5⟩) | (with_reducible exact ⟨x0, x5⟩)) (first | (go_at_call 17; refine hup.mono ?_; rintro x w6 ⟨rfl, rfl⟩) | (go_at_call 19; refine hwd.mono ?_; rintro x w6 ⟨r1, kap1, rfl, p1, p2, p3, p4, p5⟩; have hI3 := hI2.below (undrew p5); obtain ⟨x0, x1, x2, x3, x4, x5, xf⟩ := cells6 hI3.box.out; rw [ho.out] at x5) | (go_at_call 20; refine (Rnor.words_same p3 hI3.both.ref.words hsz).mono ?_; rintro x w7 ⟨rfl, p6⟩; have hI4 := hI3.below p6; obtain ⟨x0, x1, x2, x3, x4, x5, xf⟩ := cells6 hI4.box.out; rw [ho.out] at x5))
        clear hup hwd hO2 p1 p2 p3 p4 p5 p6 d0 d5 hI2 hI3
        clear x0 x1 x2 x3 x4 x5 xf
        have x1 := (cells6 hI4.box.out).2.1
        go_wp2
        clear x1
        go_loopw [71] (fun i wq => ∃ q : Nat, q ≤ c'.wear.length ∧ i = .int .i64 q ∧ Inv w wq N n g bw be a kap a2 kap2 c') (fun i _ => c'.wear.length - (intOf i).toNat)
        case atStart => exact ⟨0, Nat.zero_le _, rfl, hI4⟩
        case round =>
          clear hI4
          obtain ⟨q, hq, rfl, hI5⟩ := hrel
          have x1 := (cells6 hI5.box.out).2.1
          have h64 : c'.wear.length ≤ 64 := hI5.both.ref.ok.most
          have h65 : (c'.wear.length : Int) ≤ 64 := by omega
          by_cases hq2 : q < c'.wear.length
          · have hq3 : (q : Int) < (c'.wear.length : Int) := by omega
            have y0 := hI5.both.ref.wear.cell hq2
            generalize hz : c'.wear.getD q 0 = z at y0
            have HZ := Lib.hid hz
            clear hz
            have hwr := fun m => wear_q (hI5.both.own.drewN m) (b := (q : Int)) (n := z) (Lib.hid (by unfold Nr.worn; rw [if_neg (by omega), Int.toNat_natCast]; exact HZ.out))
            go_wp2
            go_quiet ((go_at_call 15; exact Calls.quiet_of_same (hwr _)))
            go_wp2
            go_roundw
            case rel => exact ⟨q + 1, by omega, by go_num, inv_drewN hI5 _⟩
            case measure => simp [intOf]; omega
          · obtain rfl : q = c'.wear.length := by omega
            clear x1
            go_wp2
            go_roundw
            case rel => exact ⟨j + 1, a, kap, a2, kap2, c', by omega, by go_num, hI5⟩
            case measure => simp [intOf]; omega
      · go_region_held3 (fun W => W.cell? ⟨N, 0, none⟩ = some (.slice (some ⟨a, 0, none⟩) c'.words.length kap) ∧ W.cell? ⟨N, 5, none⟩ = some (.bool true)) (first | (with_reducible exact ⟨d0, d5⟩) | (with_reducible exact ⟨x0, x5⟩)) (first | (go_at_call 17; refine hup.mono ?_; rintro x w6 ⟨rfl, rfl⟩) | (go_at_call 19; refine hwd.mono ?_; rintro x w6 ⟨r1, kap1, rfl, p1, p2, p3, p4, p5⟩; have hI3 := hI2.below (undrew p5); obtain ⟨x0, x1, x2, x3, x4, x5, xf⟩ := cells6 hI3.box.out; rw [ho.out] at x5) | (go_at_call 20; refine (Rnor.words_same p3 hI3.both.ref.words hsz).mono ?_; rintro x w7 ⟨rfl, p6⟩; have hI4 := hI3.below p6; obtain ⟨x0, x1, x2, x3, x4, x5, xf⟩ := cells6 hI4.box.out; rw [ho.out] at x5))
        clear hup hwd hO2 p1 p2 p3 p4 p5 p6 d0 d5 hI2 hI3
        clear x0 x1 x2 x3 x4 x5 xf
        have x1 := (cells6 hI4.box.out).2.1
        go_wp2
        clear x1
        go_loopw [71] (fun i wq => ∃ q : Nat, q ≤ c'.wear.length ∧ i = .int .i64 q ∧ Inv w wq N n g bw be a kap a2 kap2 c') (fun i _ => c'.wear.length - (intOf i).toNat)
        case atStart => exact ⟨0, Nat.zero_le _, rfl, hI4⟩
        case round =>
          clear hI4
          obtain ⟨q, hq, rfl, hI5⟩ := hrel
          have x1 := (cells6 hI5.box.out).2.1
          have h64 : c'.wear.length ≤ 64 := hI5.both.ref.ok.most
          have h65 : (c'.wear.length : Int) ≤ 64 := by omega
          by_cases hq2 : q < c'.wear.length
          · have hq3 : (q : Int) < (c'.wear.length : Int) := by omega
            have y0 := hI5.both.ref.wear.cell hq2
            generalize hz : c'.wear.getD q 0 = z at y0
            have HZ := Lib.hid hz
            clear hz
            have hwr := fun m => wear_q (hI5.both.own.drewN m) (b := (q : Int)) (n := z) (Lib.hid (by unfold Nr.worn; rw [if_neg (by omega), Int.toNat_natCast]; exact HZ.out))
            go_wp2
            go_quiet ((go_at_call 15; exact Calls.quiet_of_same (hwr _)))
            go_wp2
            go_roundw
            case rel => exact ⟨q + 1, by omega, by go_num, inv_drewN hI5 _⟩
            case measure => simp [intOf]; omega
          · obtain rfl : q = c'.wear.length := by omega
            clear x1
            go_wp2
            go_roundw
            case rel => exact ⟨j + 1, a, kap, a2, kap2, c', by omega, by go_num, hI5⟩
            case measure => simp [intOf]; omega
end L02Acts
end Go.Proofs.Ytmaakjabjpppkaa
