/- WalkAgain: asked once more the answer is the same, and nothing is changed in memory; but for A and D nothing was changed at all. No condition. -/
import Derived.Test.YtejgaldeamjplaaKit15
import Derived.Test.YtejgaldeamjplaaWkL
import Derived.Test.YtejgaldeamjplaaRow15
import Derived.Deep.RegionHeld3
namespace Go.Proofs.Ytejgaldeamjplaa
open Go.RowKit
set_option linter.unusedVariables false
namespace L15Again
set_option maxHeartbeats 2000000 in
set_option maxRecDepth 100000 in
theorem WalkAgain_c (cs0 : Array Value) (cs1 : Array Value) (w : World) (s0 : Sh.ok w (.agg 2 [(0, 1, .int .u32), (1, 1, .slice 1 (.int .u32))]) cs0.toList) (s1 : Sh.ok w (.agg 5 [(0, 1, .int .u32), (1, 1, .int .u32), (2, 1, .int .u32), (3, 1, .int .i64), (4, 1, .int .i64)]) cs1.toList) :
    Calls Try.prog 5 #[.agg cs0, .agg cs1] w fun e w' => e = .returned (.bool true) ∧ Below w.heap.size w w' := by
  obtain ⟨base, ad, n, cap, zs, hcs, hb0, hb1, hW⟩ := ram_of s0
  obtain ⟨a, hca, v1, v2, v3, v4, v5⟩ := ask_of s1
  clear s0 s1
  rw [hcs, hca]
  clear hcs hca
  have hal := fun o1 o2 => Live15.alive_c ((w.alloc o1).alloc o2)
  have hri := fun W => Kit15.right_c W base ad n cap a
  cases hrB : Kit15.rightB n a with
  | false =>
    rw [hrB] at hri
    go_enter Try.func5, Try.ntmps5
    go_wp2_with (first | (go_at_call 9; refine (hal _ _).mono ?_; rintro e w1 ⟨rfl, b5⟩; clear hal; obtain ⟨Er, Ea, B⟩ := alloc2_then b5; clear b5; replace Er := Lib.hid Er; replace Ea := Lib.hid Ea; obtain ⟨x0, x1, xf⟩ := cells2 Er.out; obtain ⟨y0, y1, y2, y3, y4, yf⟩ := cells5 Ea.out) | (go_at_call 10; refine (hri _).mono ?_; rintro e w2 ⟨rfl, b6⟩; clear hri; replace Er := Lib.hid ((b6.block _ (Array.getElem?_eq_some_iff.1 Er.out).1).trans Er.out); replace Ea := Lib.hid ((b6.block _ (Array.getElem?_eq_some_iff.1 Ea.out).1).trans Ea.out); replace B := Below.then B b6; clear x0 x1 xf y0 y1 y2 y3 y4 yf; obtain ⟨x0, x1, xf⟩ := cells2 Er.out; obtain ⟨y0, y1, y2, y3, y4, yf⟩ := cells5 Ea.out; clear b6))
    go_ret
    exact ⟨rfl, B⟩
  | true =>
    rw [hrB] at hri
    obtain ⟨hn, ha⟩ := Kit15.right_ok hrB v1 v2 v3
    clear hrB v1 v2 v3 v4 v5
    obtain ⟨⟨pa, c, t, z1⟩, q1⟩ : ∃ z, Hid (Wk.to base zs a = z) := ⟨_, rfl⟩
    have hag := Wk.again (base := base) (zs := zs) (a := a) hW.z0
    rw [q1.out] at hag
    obtain ⟨q2', hzl', hon'⟩ := hag
    have q2 : Hid (Wk.to base z1 a = ⟨pa, c, t, z1⟩) := q2'
    have hzl : Hid (z1.length = n) := hzl'.trans hW.len
    have hon : Hid (∀ j : Nat, bits .andNot .u32 (bits .xor .u32 (z1.getD j 0) (zs.getD j 0)) 192 = 0 ∧ bits .andNot .u32 (zs.getD j 0) (z1.getD j 0) = 0) := fun j => Wk.only (hW.z0 j).1 (hW.z0 j).2 (hon' j)
    have hT1 := fun W0 W g r a' k' (RA : RamAt W0 W g r base a' k' zs) (hr : r < W.heap.size) => Walk.walk_to RA hr a ha q1
    have hT2 := fun W0 W g r a' k' (RA : RamAt W0 W g r base a' k' z1) (hr : r < W.heap.size) => Walk.walk_to RA hr a ha q2
    unfold Walk.askv at hT1 hT2
    clear q1 q2 q2' hzl' hon'
    have hn' : (n : Int) ≤ 4096 := by omega
    go_enter Try.func5, Try.ntmps5
    go_wp2_with (first | (go_at_call 9; refine (hal _ _).mono ?_; rintro e w1 ⟨rfl, b5⟩; clear hal; obtain ⟨Er, Ea, B⟩ := alloc2_then b5; clear b5; replace Er := Lib.hid Er; replace Ea := Lib.hid Ea; obtain ⟨x0, x1, xf⟩ := cells2 Er.out; obtain ⟨y0, y1, y2, y3, y4, yf⟩ := cells5 Ea.out) | (go_at_call 10; refine (hri _).mono ?_; rintro e w2 ⟨rfl, b6⟩; clear hri; replace Er := Lib.hid ((b6.block _ (Array.getElem?_eq_some_iff.1 Er.out).1).trans Er.out); replace Ea := Lib.hid ((b6.block _ (Array.getElem?_eq_some_iff.1 Ea.out).1).trans Ea.out); replace B := Below.then B b6; clear x0 x1 xf y0 y1 y2 y3 y4 yf; obtain ⟨x0, x1, xf⟩ := cells2 Er.out; obtain ⟨y0, y1, y2, y3, y4, yf⟩ := cells5 Ea.out; clear b6) | (go_at_call 11; refine (Kit15.ram_c hb0 hb1 (hW.below (by first | exact B | exact Below.then B (below_drew _))) hn).mono ?_; rintro e w3 ⟨g, r, a', k', rfl, RA, hr⟩; have Er0 := Er; have Ea0 := Ea; have B0 := B; have b6 := RA.below; (try replace b6 := undrew b6); replace Er := Lib.hid ((b6.block _ (Array.getElem?_eq_some_iff.1 Er.out).1).trans Er.out); replace Ea := Lib.hid ((b6.block _ (Array.getElem?_eq_some_iff.1 Ea.out).1).trans Ea.out); replace B := Below.then B b6; clear x0 x1 xf y0 y1 y2 y3 y4 yf; obtain ⟨x0, x1, xf⟩ := cells2 Er.out; obtain ⟨y0, y1, y2, y3, y4, yf⟩ := cells5 Ea.out; clear b6) | (go_at_call 12; refine (hT1 _ _ _ _ _ _ RA hr).mono ?_; rintro e w4 ⟨rfl, RB, kp⟩; clear hT1; have b7 := RB.below; have er' := (b7.block _ (Array.getElem?_eq_some_iff.1 Er0.out).1).trans Er0.out; have ea' := (b7.block _ (Array.getElem?_eq_some_iff.1 Ea0.out).1).trans Ea0.out; clear Er Ea B x0 x1 xf y0 y1 y2 y3 y4 yf; have Er := Lib.hid er'; have Ea := Lib.hid ea'; clear er' ea'; obtain ⟨x0, x1, xf⟩ := cells2 Er.out; obtain ⟨y0, y1, y2, y3, y4, yf⟩ := cells5 Ea.out; have B := Below.then B0 b7; obtain ⟨g0, g1⟩ := RB.cells; rw [hzl.out] at g1; replace hr := Nat.lt_of_lt_of_le hr kp.size; clear RA kp b7) | (at_builtin; refine append_w2 (by go_simp) _ _ rfl w4.heap.size _ 0 [] rfl (World.ownsRow_nil _ _ _ _) rfl (ram_cap RB) (ram_wd2 RB hzl.out) (by omega) (Nat.le_refl _) ?_; intro v1 w5 o1 g2 _; rw [Nat.zero_add, List.nil_append] at o1; have b6 := alloc_append g2; obtain ⟨rb, ab, kb, rfl, RW, hrb⟩ := Mrow.of (w := w4) o1 hzl.out; clear o1 g2 g0 g1; have hne := Lib.hid (fun h : ab ≠ none => (show ¬ rb = r by have := hrb h; omega)); clear hrb; replace RB := RB.then b6; replace hr := Nat.lt_of_lt_of_le hr b6.size; replace Er := Lib.hid ((b6.block _ (Array.getElem?_eq_some_iff.1 Er.out).1).trans Er.out); replace Ea := Lib.hid ((b6.block _ (Array.getElem?_eq_some_iff.1 Ea.out).1).trans Ea.out); replace B := Below.then B b6; clear x0 x1 xf y0 y1 y2 y3 y4 yf; obtain ⟨x0, x1, xf⟩ := cells2 Er.out; obtain ⟨y0, y1, y2, y3, y4, yf⟩ := cells5 Ea.out; clear b6))
    have WD := hW.below B
    have WB := RW.wd hzl.out RB.z0
    go_loopw [38] (fun i wr => ∃ j : Nat, j ≤ n ∧ i = .int .i64 j ∧ Below w5.heap.size w5 wr) (fun i _ => n - (intOf i).toNat)
    case atStart => exact ⟨0, Nat.zero_le _, rfl, Below.refl _ _⟩
    case round =>
      obtain ⟨j, hj, rfl, hR⟩ := hrel
      have HR := Lib.hid hR
      by_cases hlt : j < n
      · have hlt2 : (j : Int) < (n : Int) := by omega
        obtain ⟨b1, f1, rfl, v1⟩ := WD.at_ hlt
        obtain ⟨b2, f2, rfl, v2⟩ := WB.at_ hlt
        have x0' := (hR.cell (World.block_lt_of_cell? w5 _ x0)).trans x0
        have x1' := (hR.cell (World.block_lt_of_cell? w5 _ x1)).trans x1
        have p1 := (hR.cell (World.block_lt_of_cell? w5 _ (v1 j hlt))).trans (v1 j hlt)
        have p2 := (hR.cell (World.block_lt_of_cell? w5 _ (v2 j hlt))).trans (v2 j hlt)
        obtain ⟨k1, k2⟩ := hon.out j
        clear v1 v2 hR x0 x1 xf y0 y1 y2 y3 y4 yf
        generalize z1.getD j 0 = u at *
        generalize zs.getD j 0 = v at *
        go_wp2
        go_quiet (fail)
        go_wp2
        go_roundw
        case rel => exact ⟨j + 1, by omega, by go_num, drewn_below HR.out _⟩
        case measure => simp [intOf]; omega
      · have hlt2 : (n : Int) ≤ (j : Int) := by omega
        clear HR WD WB
        replace RB := RB.then hR
        replace RW := RW.below hR
        replace hr := Nat.lt_of_lt_of_le hr hR.size
        replace Er := Lib.hid ((hR.block _ (Array.getElem?_eq_some_iff.1 Er.out).1).trans Er.out); replace Ea := Lib.hid ((hR.block _ (Array.getElem?_eq_some_iff.1 Ea.out).1).trans Ea.out); replace B := Below.then B hR; clear x0 x1 xf y0 y1 y2 y3 y4 yf; obtain ⟨x0, x1, xf⟩ := cells2 Er.out; obtain ⟨y0, y1, y2, y3, y4, yf⟩ := cells5 Ea.out
        clear hR
        go_wp2_with (first | (go_at_call 12; refine (hT2 _ _ _ _ _ _ RB hr).mono ?_; rintro e w8 ⟨rfl, RC, kp⟩; clear hT2; have b7 := RC.below; have er' := (b7.block _ (Array.getElem?_eq_some_iff.1 Er0.out).1).trans Er0.out; have ea' := (b7.block _ (Array.getElem?_eq_some_iff.1 Ea0.out).1).trans Ea0.out; clear Er Ea B x0 x1 xf y0 y1 y2 y3 y4 yf; have Er := Lib.hid er'; have Ea := Lib.hid ea'; clear er' ea'; obtain ⟨x0, x1, xf⟩ := cells2 Er.out; obtain ⟨y0, y1, y2, y3, y4, yf⟩ := cells5 Ea.out; have B := Below.then B0 b7; obtain ⟨g0, g1⟩ := RC.cells; rw [hzl.out] at g1; replace RW := RW.kp kp hne.out; clear RB kp b7) | (go_at_call 14; refine (Kit15.words_same ((ram_wd2 RC hzl.out).below (by first | exact Below.refl _ _ | exact below_drew _)) ((RW.wd hzl.out RC.z0).below (by first | exact Below.refl _ _ | exact below_drew _)) hn).mono ?_; rintro e w9 ⟨rfl, b6⟩; (try replace b6 := undrew b6); replace B := Below.then B b6; have C6 := fun (p : Addr) (v : Value) (h : w8.cell? p = some v) => (b6.cell (World.block_lt_of_cell? w8 p h)).trans h; replace g0 := C6 _ _ g0; replace g1 := C6 _ _ g1; clear C6 b6 RC RW))
        go_ret
        exact ⟨rfl, B⟩
end L15Again
end Go.Proofs.Ytejgaldeamjplaa
