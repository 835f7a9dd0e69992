/- WalkCauses: why there is no address is told by the cause that belongs to what was asked for. No condition. -/
import Derived.Test.YtejgaldeamjplaaKit15
import Derived.Deep.RegionHeld3
namespace Go.Proofs.Ytejgaldeamjplaa
open Go.RowKit
set_option linter.unusedVariables false
namespace L15Causes
set_option maxHeartbeats 2000000 in
set_option maxRecDepth 100000 in
theorem WalkCauses_c (cs0 : Array Value) (cs1 : Array Value) (w : World) (s0 : Sh.ok w (.agg 2 [(0, 1, .int .u32), (1, 1, .slice 1 (.int .u32))]) cs0.toList) (s1 : Sh.ok w (.agg 5 [(0, 1, .int .u32), (1, 1, .int .u32), (2, 1, .int .u32), (3, 1, .int .i64), (4, 1, .int .i64)]) cs1.toList) :
    Calls Try.prog 8 #[.agg cs0, .agg cs1] w fun e w' => e = .returned (.bool true) ∧ Below w.heap.size w w' := by
  obtain ⟨base, ad, n, cap, zs, hcs, hb0, hb1, hW⟩ := ram_of s0
  obtain ⟨a, hca, v1, v2, v3, v4, v5⟩ := ask_of s1
  clear s0 s1
  rw [hcs, hca]
  clear hcs hca
  have hal := fun o1 o2 => Live15.alive_c ((w.alloc o1).alloc o2)
  have hri := fun W => Kit15.right_c W base ad n cap a
  cases hrB : Kit15.rightB n a with
  | false =>
    rw [hrB] at hri
    go_enter Try.func8, Try.ntmps8
    go_wp2_with (first | (go_at_call 9; refine (hal _ _).mono ?_; rintro e w1 ⟨rfl, b5⟩; clear hal; obtain ⟨Er, Ea, B⟩ := alloc2_then b5; clear b5; replace Er := Lib.hid Er; replace Ea := Lib.hid Ea; obtain ⟨x0, x1, xf⟩ := cells2 Er.out; obtain ⟨y0, y1, y2, y3, y4, yf⟩ := cells5 Ea.out) | (go_at_call 10; refine (hri _).mono ?_; rintro e w2 ⟨rfl, b6⟩; clear hri; replace Er := Lib.hid ((b6.block _ (Array.getElem?_eq_some_iff.1 Er.out).1).trans Er.out); replace Ea := Lib.hid ((b6.block _ (Array.getElem?_eq_some_iff.1 Ea.out).1).trans Ea.out); replace B := Below.then B b6; clear x0 x1 xf y0 y1 y2 y3 y4 yf; obtain ⟨x0, x1, xf⟩ := cells2 Er.out; obtain ⟨y0, y1, y2, y3, y4, yf⟩ := cells5 Ea.out; clear b6))
    go_ret
    exact ⟨rfl, B⟩
  | true =>
    rw [hrB] at hri
    obtain ⟨hn, ha⟩ := Kit15.right_ok hrB v1 v2 v3
    clear hrB v1 v2 v3 v4 v5
    obtain ⟨⟨pa, c, t, zs'⟩, q⟩ : ∃ z, Hid (Wk.to base zs a = z) := ⟨_, rfl⟩
    have hc := Wk.causes base zs a
    rw [q.out] at hc
    have hT := fun W0 W g r a' k' (RA : RamAt W0 W g r base a' k' zs) (hr : r < W.heap.size) => Walk.walk_to RA hr a ha q
    unfold Walk.askv at hT
    have hacc := Lib.hid ha.acc
    have hs0 := ha.satp0
    cases t with
    | true =>
      have h0 : c = 0 := hc.1 rfl
      subst h0
      clear hc q
      go_enter Try.func8, Try.ntmps8
      go_wp2_with (first | (go_at_call 9; refine (hal _ _).mono ?_; rintro e w1 ⟨rfl, b5⟩; clear hal; obtain ⟨Er, Ea, B⟩ := alloc2_then b5; clear b5; replace Er := Lib.hid Er; replace Ea := Lib.hid Ea; obtain ⟨x0, x1, xf⟩ := cells2 Er.out; obtain ⟨y0, y1, y2, y3, y4, yf⟩ := cells5 Ea.out) | (go_at_call 10; refine (hri _).mono ?_; rintro e w2 ⟨rfl, b6⟩; clear hri; replace Er := Lib.hid ((b6.block _ (Array.getElem?_eq_some_iff.1 Er.out).1).trans Er.out); replace Ea := Lib.hid ((b6.block _ (Array.getElem?_eq_some_iff.1 Ea.out).1).trans Ea.out); replace B := Below.then B b6; clear x0 x1 xf y0 y1 y2 y3 y4 yf; obtain ⟨x0, x1, xf⟩ := cells2 Er.out; obtain ⟨y0, y1, y2, y3, y4, yf⟩ := cells5 Ea.out; clear b6))
      go_region_held3 (fun W => W.cell? ⟨w.heap.size, 0, none⟩ = some (.int .u32 base) ∧ W.cell? ⟨w.heap.size, 1, none⟩ = some (.slice ad n cap) ∧ W.cell? ⟨w.heap.size + 1, 0, none⟩ = some (.int .u32 a.va) ∧ W.cell? ⟨w.heap.size + 1, 1, none⟩ = some (.int .u32 a.satp) ∧ W.cell? ⟨w.heap.size + 1, 2, none⟩ = some (.int .u32 a.status) ∧ W.cell? ⟨w.heap.size + 1, 3, none⟩ = some (.int .i64 a.access) ∧ W.cell? ⟨w.heap.size + 1, 4, none⟩ = some (.int .i64 a.priv)) (exact ⟨x0, x1, y0, y1, y2, y3, y4⟩) (first | (go_at_call 11; refine (Kit15.ram_c hb0 hb1 (hW.below (by first | exact B | exact Below.then B (below_drew _))) hn).mono ?_; rintro e w3 ⟨g, r, a', k', rfl, RA, hr⟩; have Er0 := Er; have Ea0 := Ea; have B0 := B; have b6 := RA.below; (try replace b6 := undrew b6); replace Er := Lib.hid ((b6.block _ (Array.getElem?_eq_some_iff.1 Er.out).1).trans Er.out); replace Ea := Lib.hid ((b6.block _ (Array.getElem?_eq_some_iff.1 Ea.out).1).trans Ea.out); replace B := Below.then B b6; clear x0 x1 xf y0 y1 y2 y3 y4 yf; obtain ⟨x0, x1, xf⟩ := cells2 Er.out; obtain ⟨y0, y1, y2, y3, y4, yf⟩ := cells5 Ea.out; clear b6) | (go_at_call 12; refine (hT _ _ _ _ _ _ RA hr).mono ?_; rintro e w4 ⟨rfl, RB, kp⟩; clear hT; have b7 := RB.below; have er := (b7.block _ (Array.getElem?_eq_some_iff.1 Er0.out).1).trans Er0.out; have ea := (b7.block _ (Array.getElem?_eq_some_iff.1 Ea0.out).1).trans Ea0.out; clear Er Ea x0 x1 xf y0 y1 y2 y3 y4 yf; have Er := Lib.hid er; have Ea := Lib.hid ea; obtain ⟨x0, x1, xf⟩ := cells2 Er.out; obtain ⟨y0, y1, y2, y3, y4, yf⟩ := cells5 Ea.out; clear er ea; clear B; (try replace b7 := undrew b7); have B := Below.then B0 b7; clear b7))
      go_wp2
      go_ret
      exact ⟨rfl, B⟩
    | false =>
      obtain ⟨h0, h1, h2, h3⟩ := hc.2 rfl
      have h0 : pa = 0 := h0
      subst h0
      have e3 : (a.priv != 3) = true := by rw [bne_iff_ne]; exact h2
      have e4 : (a.satp / 2147483648 == 1) = true := by
        have k1 := ha.satp1
        have h5 : Bt.tb a.satp 31 = true := h3
        rw [Bt.top_bit ha.satp0 ha.satp1, decide_eq_true_eq] at h5
        rw [beq_iff_eq]; omega
      rcases h1 with h1 | h1
      · have h1 : c = Wk.cause a.access true := h1
        subst h1
        clear hc q h2 h3
        go_enter Try.func8, Try.ntmps8
        go_wp2_with (first | (go_at_call 9; refine (hal _ _).mono ?_; rintro e w1 ⟨rfl, b5⟩; clear hal; obtain ⟨Er, Ea, B⟩ := alloc2_then b5; clear b5; replace Er := Lib.hid Er; replace Ea := Lib.hid Ea; obtain ⟨x0, x1, xf⟩ := cells2 Er.out; obtain ⟨y0, y1, y2, y3, y4, yf⟩ := cells5 Ea.out) | (go_at_call 10; refine (hri _).mono ?_; rintro e w2 ⟨rfl, b6⟩; clear hri; replace Er := Lib.hid ((b6.block _ (Array.getElem?_eq_some_iff.1 Er.out).1).trans Er.out); replace Ea := Lib.hid ((b6.block _ (Array.getElem?_eq_some_iff.1 Ea.out).1).trans Ea.out); replace B := Below.then B b6; clear x0 x1 xf y0 y1 y2 y3 y4 yf; obtain ⟨x0, x1, xf⟩ := cells2 Er.out; obtain ⟨y0, y1, y2, y3, y4, yf⟩ := cells5 Ea.out; clear b6))
        go_region_held3 (fun W => W.cell? ⟨w.heap.size, 0, none⟩ = some (.int .u32 base) ∧ W.cell? ⟨w.heap.size, 1, none⟩ = some (.slice ad n cap) ∧ W.cell? ⟨w.heap.size + 1, 0, none⟩ = some (.int .u32 a.va) ∧ W.cell? ⟨w.heap.size + 1, 1, none⟩ = some (.int .u32 a.satp) ∧ W.cell? ⟨w.heap.size + 1, 2, none⟩ = some (.int .u32 a.status) ∧ W.cell? ⟨w.heap.size + 1, 3, none⟩ = some (.int .i64 a.access) ∧ W.cell? ⟨w.heap.size + 1, 4, none⟩ = some (.int .i64 a.priv)) (exact ⟨x0, x1, y0, y1, y2, y3, y4⟩) (first | (go_at_call 11; refine (Kit15.ram_c hb0 hb1 (hW.below (by first | exact B | exact Below.then B (below_drew _))) hn).mono ?_; rintro e w3 ⟨g, r, a', k', rfl, RA, hr⟩; have Er0 := Er; have Ea0 := Ea; have B0 := B; have b6 := RA.below; (try replace b6 := undrew b6); replace Er := Lib.hid ((b6.block _ (Array.getElem?_eq_some_iff.1 Er.out).1).trans Er.out); replace Ea := Lib.hid ((b6.block _ (Array.getElem?_eq_some_iff.1 Ea.out).1).trans Ea.out); replace B := Below.then B b6; clear x0 x1 xf y0 y1 y2 y3 y4 yf; obtain ⟨x0, x1, xf⟩ := cells2 Er.out; obtain ⟨y0, y1, y2, y3, y4, yf⟩ := cells5 Ea.out; clear b6) | (go_at_call 12; refine (hT _ _ _ _ _ _ RA hr).mono ?_; rintro e w4 ⟨rfl, RB, kp⟩; clear hT; have b7 := RB.below; have er := (b7.block _ (Array.getElem?_eq_some_iff.1 Er0.out).1).trans Er0.out; have ea := (b7.block _ (Array.getElem?_eq_some_iff.1 Ea0.out).1).trans Ea0.out; clear Er Ea x0 x1 xf y0 y1 y2 y3 y4 yf; have Er := Lib.hid er; have Ea := Lib.hid ea; obtain ⟨x0, x1, xf⟩ := cells2 Er.out; obtain ⟨y0, y1, y2, y3, y4, yf⟩ := cells5 Ea.out; clear er ea; clear B; (try replace b7 := undrew b7); have B := Below.then B0 b7; clear b7))
        go_wp2_with (go_at_call 18; refine (Walk.cause_c _ _ _ hacc.out).mono ?_; rintro e w5 ⟨rfl, b6⟩; replace Er := Lib.hid ((b6.block _ (Array.getElem?_eq_some_iff.1 Er.out).1).trans Er.out); replace Ea := Lib.hid ((b6.block _ (Array.getElem?_eq_some_iff.1 Ea.out).1).trans Ea.out); replace B := Below.then B b6; clear x0 x1 xf y0 y1 y2 y3 y4 yf; obtain ⟨x0, x1, xf⟩ := cells2 Er.out; obtain ⟨y0, y1, y2, y3, y4, yf⟩ := cells5 Ea.out; clear b6)
        go_ret
        exact ⟨rfl, B⟩
      · have h1 : c = Wk.cause a.access false := h1
        have e5 : (Wk.cause a.access false == Wk.cause a.access true) = false := by
          rcases ha.acc with h | h | h <;> rw [h] <;> decide
        subst h1
        clear hc q h2 h3
        go_enter Try.func8, Try.ntmps8
        go_wp2_with (first | (go_at_call 9; refine (hal _ _).mono ?_; rintro e w1 ⟨rfl, b5⟩; clear hal; obtain ⟨Er, Ea, B⟩ := alloc2_then b5; clear b5; replace Er := Lib.hid Er; replace Ea := Lib.hid Ea; obtain ⟨x0, x1, xf⟩ := cells2 Er.out; obtain ⟨y0, y1, y2, y3, y4, yf⟩ := cells5 Ea.out) | (go_at_call 10; refine (hri _).mono ?_; rintro e w2 ⟨rfl, b6⟩; clear hri; replace Er := Lib.hid ((b6.block _ (Array.getElem?_eq_some_iff.1 Er.out).1).trans Er.out); replace Ea := Lib.hid ((b6.block _ (Array.getElem?_eq_some_iff.1 Ea.out).1).trans Ea.out); replace B := Below.then B b6; clear x0 x1 xf y0 y1 y2 y3 y4 yf; obtain ⟨x0, x1, xf⟩ := cells2 Er.out; obtain ⟨y0, y1, y2, y3, y4, yf⟩ := cells5 Ea.out; clear b6))
        go_region_held3 (fun W => W.cell? ⟨w.heap.size, 0, none⟩ = some (.int .u32 base) ∧ W.cell? ⟨w.heap.size, 1, none⟩ = some (.slice ad n cap) ∧ W.cell? ⟨w.heap.size + 1, 0, none⟩ = some (.int .u32 a.va) ∧ W.cell? ⟨w.heap.size + 1, 1, none⟩ = some (.int .u32 a.satp) ∧ W.cell? ⟨w.heap.size + 1, 2, none⟩ = some (.int .u32 a.status) ∧ W.cell? ⟨w.heap.size + 1, 3, none⟩ = some (.int .i64 a.access) ∧ W.cell? ⟨w.heap.size + 1, 4, none⟩ = some (.int .i64 a.priv)) (exact ⟨x0, x1, y0, y1, y2, y3, y4⟩) (first | (go_at_call 11; refine (Kit15.ram_c hb0 hb1 (hW.below (by first | exact B | exact Below.then B (below_drew _))) hn).mono ?_; rintro e w3 ⟨g, r, a', k', rfl, RA, hr⟩; have Er0 := Er; have Ea0 := Ea; have B0 := B; have b6 := RA.below; (try replace b6 := undrew b6); replace Er := Lib.hid ((b6.block _ (Array.getElem?_eq_some_iff.1 Er.out).1).trans Er.out); replace Ea := Lib.hid ((b6.block _ (Array.getElem?_eq_some_iff.1 Ea.out).1).trans Ea.out); replace B := Below.then B b6; clear x0 x1 xf y0 y1 y2 y3 y4 yf; obtain ⟨x0, x1, xf⟩ := cells2 Er.out; obtain ⟨y0, y1, y2, y3, y4, yf⟩ := cells5 Ea.out; clear b6) | (go_at_call 12; refine (hT _ _ _ _ _ _ RA hr).mono ?_; rintro e w4 ⟨rfl, RB, kp⟩; clear hT; have b7 := RB.below; have er := (b7.block _ (Array.getElem?_eq_some_iff.1 Er0.out).1).trans Er0.out; have ea := (b7.block _ (Array.getElem?_eq_some_iff.1 Ea0.out).1).trans Ea0.out; clear Er Ea x0 x1 xf y0 y1 y2 y3 y4 yf; have Er := Lib.hid er; have Ea := Lib.hid ea; obtain ⟨x0, x1, xf⟩ := cells2 Er.out; obtain ⟨y0, y1, y2, y3, y4, yf⟩ := cells5 Ea.out; clear er ea; clear B; (try replace b7 := undrew b7); have B := Below.then B0 b7; clear b7))
        go_wp2_with (go_at_call 18; refine (Walk.cause_c _ _ _ hacc.out).mono ?_; rintro e w5 ⟨rfl, b6⟩; replace Er := Lib.hid ((b6.block _ (Array.getElem?_eq_some_iff.1 Er.out).1).trans Er.out); replace Ea := Lib.hid ((b6.block _ (Array.getElem?_eq_some_iff.1 Ea.out).1).trans Ea.out); replace B := Below.then B b6; clear x0 x1 xf y0 y1 y2 y3 y4 yf; obtain ⟨x0, x1, xf⟩ := cells2 Er.out; obtain ⟨y0, y1, y2, y3, y4, yf⟩ := cells5 Ea.out; clear b6)
        go_ret
        exact ⟨rfl, B⟩
end L15Causes
end Go.Proofs.Ytejgaldeamjplaa
