/- WalkRam: any word of a memory, and whether it can be put, is the document's. No condition. -/
import Derived.Test.YtejgaldeamjplaaKit15
import Derived.Test.YtejgaldeamjplaaWkL
import Derived.Test.YtejgaldeamjplaaRow15
import Derived.Test.YtejgaldeamjplaaRto3
import Derived.Deep.RegionHeld3
namespace Go.Proofs.Ytejgaldeamjplaa
open Go.RowKit
set_option linter.unusedVariables false
namespace L15Ram
set_option maxHeartbeats 2000000 in
set_option maxRecDepth 100000 in
theorem WalkRam_c (cs0 : Array Value) (a1 a2 : Int) (w : World) (s0 : Sh.ok w (.agg 2 [(0, 1, .int .u32), (1, 1, .slice 1 (.int .u32))]) cs0.toList) (w1 : (Lit.int .u32 a1).wf = true) (w2 : (Lit.int .u32 a2).wf = true) :
    Calls Try.prog 4 #[.agg cs0, .int .u32 a1, .int .u32 a2] w fun e w' => e = .returned (.bool true) ∧ Below w.heap.size w w' := by
  have hx : 0 ≤ a1 ∧ a1 < 4294967296 := by
    have : 0 ≤ a1 ∧ a1 ≤ 4294967295 := by simpa [Lit.wf, IntKind.min, IntKind.max, IntKind.signed, IntKind.bits] using w1
    omega
  have hv : 0 ≤ a2 ∧ a2 < 4294967296 := by
    have : 0 ≤ a2 ∧ a2 ≤ 4294967295 := by simpa [Lit.wf, IntKind.min, IntKind.max, IntKind.signed, IntKind.bits] using w2
    omega
  clear w1 w2
  obtain ⟨base, ad, n, cap, zs, hcs, hb0, hb1, hW⟩ := ram_of s0
  clear s0
  rw [hcs]
  clear hcs
  have hal := fun o1 => Live15.alive_c (w.alloc o1)
  have HX := Lib.hid hx
  have HV := Lib.hid hv
  by_cases hn : 4096 < n
  · have hn' : (4096 : Int) < (n : Int) := by omega
    clear hx hv
    go_enter Try.func4, Try.ntmps4
    go_wp2_with (go_at_call 9; refine (hal _).mono ?_; rintro e w1 ⟨rfl, b5⟩; clear hal; obtain ⟨Er, B⟩ := alloc1_then b5; clear b5; replace Er := Lib.hid Er; obtain ⟨x0, x1, xf⟩ := cells2 Er.out)
    go_ret
    exact ⟨rfl, B⟩
  · have hn : n ≤ 4096 := by omega
    have hn' : (n : Int) ≤ 4096 := by omega
    have hl := Lib.hid hW.len
    cases hp : Wk.place base n a1 with
    | none =>
      have q : Hid (Wk.place base zs.length a1 = none) := by show _ = _; rw [hl.out]; exact hp
      have hRW := fun W (hw : Wd W ad n cap zs) => Ref15.word_c hb0 hb1 hw hn hx.1 hx.2
      rw [hp] at hRW
      clear hp
      go_enter Try.func4, Try.ntmps4
      go_wp2_with (first | (go_at_call 9; refine (hal _).mono ?_; rintro e w1 ⟨rfl, b5⟩; clear hal; obtain ⟨Er, B⟩ := alloc1_then b5; clear b5; replace Er := Lib.hid Er; obtain ⟨x0, x1, xf⟩ := cells2 Er.out) | (go_at_call 11; refine (Kit15.ram_c hb0 hb1 (hW.below (by first | exact B | exact Below.then B (below_drew _))) hn).mono ?_; rintro e w3 ⟨g, r, a', k', rfl, RA, hr⟩; have Er0 := Er; have B0 := B; have b6 := RA.below; (try replace b6 := undrew b6); replace Er := Lib.hid ((b6.block _ (Array.getElem?_eq_some_iff.1 Er.out).1).trans Er.out); replace B := Below.then B b6; clear x0 x1 xf; obtain ⟨x0, x1, xf⟩ := cells2 Er.out; clear b6) | (go_at_call 16; refine (hRW _ (hW.below B)).mono ?_; rintro e w5 ⟨rfl, b6⟩; clear hRW; replace RA := RA.then b6; replace Er := Lib.hid ((b6.block _ (Array.getElem?_eq_some_iff.1 Er.out).1).trans Er.out); replace B := Below.then B b6; clear x0 x1 xf; obtain ⟨x0, x1, xf⟩ := cells2 Er.out; clear b6) | (go_at_call 15; refine (Walk.word_none RA hx.1 hx.2 q).mono ?_; rintro e w4 ⟨rfl, rfl⟩) | (go_at_call 17; refine (Walk.put_none RA hx.1 hx.2 q).mono ?_; rintro e w4 ⟨rfl, rfl⟩))
      have WD := hW.below B
      have WB := ram_wd2 RA hl.out
      obtain ⟨g0, g1⟩ := RA.cells
      rw [hl.out] at g1
      clear HX HV hx hv RA Er0 B0 hr q
      go_loopw [14, 71] (fun cv i wr => ∃ j : Nat, j ≤ n ∧ i = .int .i64 j ∧ cv = .int .i64 0 ∧ Below w5.heap.size w5 wr) (fun _ i _ => n - (intOf i).toNat)
      case atStart => exact ⟨0, Nat.zero_le _, rfl, rfl, Below.refl _ _⟩
      case round =>
        obtain ⟨j, hj, rfl, rfl, hR⟩ := hrel
        have HR := Lib.hid hR
        by_cases hlt : j < n
        · have hlt2 : (j : Int) < (n : Int) := by omega
          obtain ⟨b1, f1, rfl, v1⟩ := WD.at_ hlt
          obtain ⟨b2, f2, rfl, v2⟩ := WB.at_ hlt
          have x1' := (hR.cell (World.block_lt_of_cell? w5 _ x1)).trans x1
          have g1' := (hR.cell (World.block_lt_of_cell? w5 _ g1)).trans g1
          have p1 := (hR.cell (World.block_lt_of_cell? w5 _ (v1 j hlt))).trans (v1 j hlt)
          have p2 := (hR.cell (World.block_lt_of_cell? w5 _ (v2 j hlt))).trans (v2 j hlt)
          clear v1 v2 hR x0 x1 xf g0 g1
          generalize zs.getD j 0 = u at *
          go_wp2
          go_quiet (fail)
          go_wp2
          go_roundw
          case rel => exact ⟨j + 1, by omega, by go_num, rfl, drewn_below HR.out _⟩
          case measure => simp [intOf]; omega
        · have hlt2 : (n : Int) ≤ (j : Int) := by omega
          go_wp2
          go_ret
          exact ⟨rfl, Below.then B hR⟩
    | some k =>
      have q : Hid (Wk.place base zs.length a1 = some k) := by show _ = _; rw [hl.out]; exact hp
      have hk : k < n := by have := (Wk.place_lt q.out).1; rw [hl.out] at this; exact this
      have hsl : Hid ((zs.set k a2).length = n) := by show _ = _; rw [List.length_set]; exact hl.out
      have q2 : Hid (Wk.place base (zs.set k a2).length a1 = some k) := by show _ = _; rw [hsl.out]; exact hp
      have hgk : (zs.set k a2).getD k 0 = a2 := by rw [getD_set_int, if_pos ⟨rfl, by rw [hl.out]; exact hk⟩]
      have hg := Lib.hid (fun j => getD_set_int zs k j a2)
      have hRW := fun W (hw : Wd W ad n cap zs) => Ref15.word_c hb0 hb1 hw hn hx.1 hx.2
      rw [hp] at hRW
      have hW1 := fun {W0 W : World} {g r : Nat} {a' : Option Addr} {k' : Nat} (RA : RamAt W0 W g r base a' k' zs) => Walk.word_some RA hx.1 hx.2 q
      have hW2 := fun {W0 W : World} {g r : Nat} {a' : Option Addr} {k' : Nat} (RB : RamAt W0 W g r base a' k' (zs.set k a2)) => Walk.word_some RB hx.1 hx.2 q2
      rw [hgk] at hW2
      dsimp only at hRW
      generalize zs.getD k 0 = wk at hRW hW1
      clear hp hgk
      go_enter Try.func4, Try.ntmps4
      go_wp2_with (first | (go_at_call 9; refine (hal _).mono ?_; rintro e w1 ⟨rfl, b5⟩; clear hal; obtain ⟨Er, B⟩ := alloc1_then b5; clear b5; replace Er := Lib.hid Er; obtain ⟨x0, x1, xf⟩ := cells2 Er.out) | (go_at_call 11; refine (Kit15.ram_c hb0 hb1 (hW.below (by first | exact B | exact Below.then B (below_drew _))) hn).mono ?_; rintro e w3 ⟨g, r, a', k', rfl, RA, hr⟩; have Er0 := Er; have B0 := B; have b6 := RA.below; (try replace b6 := undrew b6); replace Er := Lib.hid ((b6.block _ (Array.getElem?_eq_some_iff.1 Er.out).1).trans Er.out); replace B := Below.then B b6; clear x0 x1 xf; obtain ⟨x0, x1, xf⟩ := cells2 Er.out; clear b6) | (go_at_call 16; refine (hRW _ (hW.below B)).mono ?_; rintro e w5 ⟨rfl, b6⟩; clear hRW; replace RA := RA.then b6; replace Er := Lib.hid ((b6.block _ (Array.getElem?_eq_some_iff.1 Er.out).1).trans Er.out); replace B := Below.then B b6; clear x0 x1 xf; obtain ⟨x0, x1, xf⟩ := cells2 Er.out; clear b6) | (go_at_call 15; refine (hW1 RA).mono ?_; rintro e w4 ⟨rfl, rfl⟩) | (go_at_call 17; refine (Walk.put_k RA hx.1 hx.2 hv.1 hv.2 q).mono ?_; rintro e w6 ⟨rfl, RB, kp⟩; have b7 := RB.below; have er' := (b7.block _ (Array.getElem?_eq_some_iff.1 Er0.out).1).trans Er0.out; clear Er B x0 x1 xf; have Er := Lib.hid er'; clear er'; obtain ⟨x0, x1, xf⟩ := cells2 Er.out; have B := Below.then B0 b7; clear RA kp b7) | (go_at_call 15; refine (hW2 RB).mono ?_; rintro e w4 ⟨rfl, rfl⟩))
      have WD := hW.below B
      have WB := ram_wd2 RB hsl.out
      obtain ⟨g0, g1⟩ := RB.cells
      rw [hsl.out] at g1
      clear HX HV hx hv RB Er0 B0 hr q q2 hW1 hW2
      go_loopw [14, 71] (fun cv i wr => ∃ j cn : Nat, j ≤ n ∧ i = .int .i64 j ∧ cv = .int .i64 cn ∧ (cn ≤ 1 ∧ (j ≤ k → cn = 0)) ∧ Below w6.heap.size w6 wr) (fun _ i _ => n - (intOf i).toNat)
      case atStart => exact ⟨0, 0, Nat.zero_le _, rfl, rfl, ⟨by omega, fun _ => rfl⟩, Below.refl _ _⟩
      case round =>
        obtain ⟨j, cn, hj, rfl, rfl, hcn, hR⟩ := hrel
        have HR := Lib.hid hR
        have HC := Lib.hid hcn
        by_cases hlt : j < n
        · have hlt2 : (j : Int) < (n : Int) := by omega
          obtain ⟨b1, f1, rfl, v1⟩ := WD.at_ hlt
          obtain ⟨b2, f2, rfl, v2⟩ := WB.at_ hlt
          have x1' := (hR.cell (World.block_lt_of_cell? w6 _ x1)).trans x1
          have g1' := (hR.cell (World.block_lt_of_cell? w6 _ g1)).trans g1
          have p1 := (hR.cell (World.block_lt_of_cell? w6 _ (v1 j hlt))).trans (v1 j hlt)
          have p2 := (hR.cell (World.block_lt_of_cell? w6 _ (v2 j hlt))).trans (v2 j hlt)
          have hgj := hg.out j
          clear v1 v2 hR x0 x1 xf g0 g1
          by_cases hjk : k = j
          · rw [if_pos ⟨hjk, by rw [hl.out]; exact hk⟩] at hgj
            rw [hgj] at p2
            obtain rfl : cn = 0 := hcn.2 (by omega)
            clear hgj hcn hg
            generalize zs.getD j 0 = u at *
            have HJ := Lib.hid hjk
            clear hjk
            by_cases huv : a2 = u
            · subst huv
              go_wp2
              go_quiet (fail)
              go_wp2
              go_roundw
              case rel => first | exact ⟨j + 1, 0, by omega, by go_num, rfl, ⟨by omega, fun _ => rfl⟩, drewn_below HR.out _⟩ | ((repeat apply Exists.intro); exact ⟨⟨j + 1, 0, by omega, by go_num, rfl, ⟨by omega, fun _ => rfl⟩, drewn_below HR.out _⟩, rfl⟩)
              case measure => simp [intOf]; omega
            · have e1 : (a2 != u) = true := by rw [bne_iff_ne]; exact huv
              clear huv
              go_wp2
              go_quiet (fail)
              go_wp2
              go_roundw
              case rel => first | exact ⟨j + 1, 1, by omega, by go_num, by go_num, ⟨by omega, fun h => by have := HJ.out; omega⟩, drewn_below HR.out _⟩ | ((repeat apply Exists.intro); exact ⟨⟨j + 1, 1, by omega, by go_num, by go_num, ⟨by omega, fun h => by have := HJ.out; omega⟩, drewn_below HR.out _⟩, rfl⟩)
              case measure => simp [intOf]; omega
          · rw [if_neg (fun h => hjk h.1)] at hgj
            rw [hgj] at p2
            have HJ := Lib.hid hjk
            clear hgj hcn hg hjk
            generalize zs.getD j 0 = u at *
            go_wp2
            go_quiet (fail)
            go_wp2
            go_roundw
            case rel => first | exact ⟨j + 1, cn, by omega, by go_num, rfl, ⟨HC.out.1, fun h => HC.out.2 (by have := HJ.out; omega)⟩, drewn_below HR.out _⟩ | ((repeat apply Exists.intro); exact ⟨⟨j + 1, cn, by omega, by go_num, rfl, ⟨HC.out.1, fun h => HC.out.2 (by have := HJ.out; omega)⟩, drewn_below HR.out _⟩, rfl⟩)
            case measure => simp [intOf]; omega
        · have hlt2 : (n : Int) ≤ (j : Int) := by omega
          have hc1 : (cn : Int) ≤ 1 := by omega
          clear hcn HC
          go_wp2
          go_ret
          exact ⟨rfl, Below.then B hR⟩
end L15Ram
end Go.Proofs.Ytejgaldeamjplaa
