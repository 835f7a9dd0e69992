/- WalkNeeds: whoever may store may load, or there is no page; who may load as User may not as Super without the bit for it. No condition. -/
import Derived.Test.YtejgaldeamjplaaKit15
import Derived.Test.YtejgaldeamjplaaWkL
import Derived.Deep.RegionHeld3
namespace Go.Proofs.Ytejgaldeamjplaa
open Go.RowKit
set_option linter.unusedVariables false
namespace L15Needs
set_option maxHeartbeats 2000000 in
set_option maxRecDepth 100000 in
theorem WalkNeeds_c (cs0 : Array Value) (cs1 : Array Value) (w : World) (s0 : Sh.ok w (.agg 2 [(0, 1, .int .u32), (1, 1, .slice 1 (.int .u32))]) cs0.toList) (s1 : Sh.ok w (.agg 5 [(0, 1, .int .u32), (1, 1, .int .u32), (2, 1, .int .u32), (3, 1, .int .i64), (4, 1, .int .i64)]) cs1.toList) :
    Calls Try.prog 6 #[.agg cs0, .agg cs1] w fun e w' => e = .returned (.bool true) ∧ Below w.heap.size w w' := by
  obtain ⟨base, ad, n, cap, zs, hcs, hb0, hb1, hW⟩ := ram_of s0
  obtain ⟨a, hca, v1, v2, v3, v4, v5⟩ := ask_of s1
  clear s0 s1
  rw [hcs, hca]
  clear hcs hca
  have hal := fun o1 o2 => Live15.alive_c ((w.alloc o1).alloc o2)
  have hri := fun W => Kit15.right_c W base ad n cap a
  cases hrB : Kit15.rightB n a with
  | false =>
    rw [hrB] at hri
    go_enter Try.func6, Try.ntmps6
    go_wp2_with (first | (go_at_call 9; refine (hal _ _).mono ?_; rintro e w1 ⟨rfl, b5⟩; clear hal; obtain ⟨Er, Ea, B⟩ := alloc2_then b5; clear b5; replace Er := Lib.hid Er; replace Ea := Lib.hid Ea; obtain ⟨x0, x1, xf⟩ := cells2 Er.out; obtain ⟨y0, y1, y2, y3, y4, yf⟩ := cells5 Ea.out) | (go_at_call 10; refine (hri _).mono ?_; rintro e w2 ⟨rfl, b6⟩; clear hri; replace Er := Lib.hid ((b6.block _ (Array.getElem?_eq_some_iff.1 Er.out).1).trans Er.out); replace Ea := Lib.hid ((b6.block _ (Array.getElem?_eq_some_iff.1 Ea.out).1).trans Ea.out); replace B := Below.then B b6; clear x0 x1 xf y0 y1 y2 y3 y4 yf; obtain ⟨x0, x1, xf⟩ := cells2 Er.out; obtain ⟨y0, y1, y2, y3, y4, yf⟩ := cells5 Ea.out; clear b6))
    go_ret
    exact ⟨rfl, B⟩
  | true =>
    rw [hrB] at hri
    obtain ⟨hn, ha⟩ := Kit15.right_ok hrB v1 v2 v3
    clear hrB v1 v2 v3 v4 v5
    by_cases hp3 : a.priv = 3
    · have e3 : (a.priv == 3) = true := by rw [hp3]; rfl
      clear hp3
      go_enter Try.func6, Try.ntmps6
      go_wp2_with (first | (go_at_call 9; refine (hal _ _).mono ?_; rintro e w1 ⟨rfl, b5⟩; clear hal; obtain ⟨Er, Ea, B⟩ := alloc2_then b5; clear b5; replace Er := Lib.hid Er; replace Ea := Lib.hid Ea; obtain ⟨x0, x1, xf⟩ := cells2 Er.out; obtain ⟨y0, y1, y2, y3, y4, yf⟩ := cells5 Ea.out) | (go_at_call 10; refine (hri _).mono ?_; rintro e w2 ⟨rfl, b6⟩; clear hri; replace Er := Lib.hid ((b6.block _ (Array.getElem?_eq_some_iff.1 Er.out).1).trans Er.out); replace Ea := Lib.hid ((b6.block _ (Array.getElem?_eq_some_iff.1 Ea.out).1).trans Ea.out); replace B := Below.then B b6; clear x0 x1 xf y0 y1 y2 y3 y4 yf; obtain ⟨x0, x1, xf⟩ := cells2 Er.out; obtain ⟨y0, y1, y2, y3, y4, yf⟩ := cells5 Ea.out; clear b6))
      go_ret
      exact ⟨rfl, B⟩
    · have e3 : (a.priv == 3) = false := by rw [beq_eq_false_iff_ne]; exact hp3
      have ok2 : Wk.Ask.Ok ⟨a.va, a.satp, a.status, 2, a.priv⟩ := ⟨ha.va0, ha.va1, ha.satp0, ha.satp1, ha.status0, ha.status1, .inr (.inr rfl), ha.pri⟩
      have ok1 : Wk.Ask.Ok ⟨a.va, a.satp, a.status, 1, a.priv⟩ := ⟨ha.va0, ha.va1, ha.satp0, ha.satp1, ha.status0, ha.status1, .inr (.inl rfl), ha.pri⟩
      by_cases hsb : Wk.bit a.satp 31 = false
      · have q2 := Lib.hid (Wk.needs_plain (base := base) (zs := zs) (a := ⟨a.va, a.satp, a.status, 2, a.priv⟩) hsb)
        have q1 := Lib.hid (Wk.needs_plain (base := base) (zs := zs) (a := ⟨a.va, a.satp, a.status, 1, a.priv⟩) hsb)
        have h2 := fun W0 W g r a' k' (RA : RamAt W0 W g r base a' k' zs) (hr : r < W.heap.size) => Walk.walk_to RA hr ⟨a.va, a.satp, a.status, 2, a.priv⟩ ok2 q2
        have h1 := fun W0 W g r a' k' (RA : RamAt W0 W g r base a' k' zs) (hr : r < W.heap.size) => Walk.walk_to RA hr ⟨a.va, a.satp, a.status, 1, a.priv⟩ ok1 q1
        have e4 : (a.satp / 2147483648 == 0) = true := by
          have k0 := ha.satp0
          have k1 := ha.satp1
          have h5 : Bt.tb a.satp 31 = false := hsb
          rw [Bt.top_bit ha.satp0 ha.satp1, decide_eq_false_iff_not] at h5
          rw [beq_iff_eq]; omega
        clear q1 q2 ok1 ok2 hsb hp3
        unfold Walk.askv at h1 h2
        go_enter Try.func6, Try.ntmps6
        go_wp2_with (first | (go_at_call 9; refine (hal _ _).mono ?_; rintro e w1 ⟨rfl, b5⟩; clear hal; obtain ⟨Er, Ea, B⟩ := alloc2_then b5; clear b5; replace Er := Lib.hid Er; replace Ea := Lib.hid Ea; obtain ⟨x0, x1, xf⟩ := cells2 Er.out; obtain ⟨y0, y1, y2, y3, y4, yf⟩ := cells5 Ea.out) | (go_at_call 10; refine (hri _).mono ?_; rintro e w2 ⟨rfl, b6⟩; clear hri; replace Er := Lib.hid ((b6.block _ (Array.getElem?_eq_some_iff.1 Er.out).1).trans Er.out); replace Ea := Lib.hid ((b6.block _ (Array.getElem?_eq_some_iff.1 Ea.out).1).trans Ea.out); replace B := Below.then B b6; clear x0 x1 xf y0 y1 y2 y3 y4 yf; obtain ⟨x0, x1, xf⟩ := cells2 Er.out; obtain ⟨y0, y1, y2, y3, y4, yf⟩ := cells5 Ea.out; clear b6))
        have er0 := (Below.heap_setCell w2 ⟨w.heap.size + 1, 3, none⟩ (.int .i64 2) w.heap.size (by show ¬ w.heap.size = w.heap.size + 1; omega)).trans Er.out
        have ea0 := heap_set Ea.out 3 (.int .i64 2)
        rw [show (#[.int .u32 a.va, .int .u32 a.satp, .int .u32 a.status, .int .i64 a.access, .int .i64 a.priv] : Array Value).setIfInBounds 3 (.int .i64 2) = #[.int .u32 a.va, .int .u32 a.satp, .int .u32 a.status, .int .i64 2, .int .i64 a.priv] from rfl] at ea0
        have B0' : Below w.heap.size w (w2.setCell ⟨w.heap.size + 1, 3, none⟩ (.int .i64 2)) := B.setCell (by show w.heap.size ≤ w.heap.size + 1; omega) _
        generalize (w2.setCell ⟨w.heap.size + 1, 3, none⟩ (.int .i64 2)) = wA at *
        clear Er Ea B x0 x1 xf y0 y1 y2 y3 y4 yf
        have Er := Lib.hid er0
        have Ea := Lib.hid ea0
        have B := B0'
        clear er0 ea0 B0'
        obtain ⟨x0, x1, xf⟩ := cells2 Er.out; obtain ⟨y0, y1, y2, y3, y4, yf⟩ := cells5 Ea.out
        go_region_held3 (fun W => W.cell? ⟨w.heap.size, 0, none⟩ = some (.int .u32 base) ∧ W.cell? ⟨w.heap.size, 1, none⟩ = some (.slice ad n cap) ∧ W.cell? ⟨w.heap.size + 1, 0, none⟩ = some (.int .u32 a.va) ∧ W.cell? ⟨w.heap.size + 1, 1, none⟩ = some (.int .u32 a.satp) ∧ W.cell? ⟨w.heap.size + 1, 2, none⟩ = some (.int .u32 a.status) ∧ W.cell? ⟨w.heap.size + 1, 3, none⟩ = some (.int .i64 2) ∧ W.cell? ⟨w.heap.size + 1, 4, none⟩ = some (.int .i64 a.priv)) (exact ⟨x0, x1, y0, y1, y2, y3, y4⟩) (first | (go_at_call 11; refine (Kit15.ram_c hb0 hb1 (hW.below (by first | exact B | exact Below.then B (below_drew _))) hn).mono ?_; rintro e w3 ⟨g, r, a', k', rfl, RA, hr⟩; have Er0 := Er; have Ea0 := Ea; have B0 := B; have b6 := RA.below; (try replace b6 := undrew b6); replace Er := Lib.hid ((b6.block _ (Array.getElem?_eq_some_iff.1 Er.out).1).trans Er.out); replace Ea := Lib.hid ((b6.block _ (Array.getElem?_eq_some_iff.1 Ea.out).1).trans Ea.out); replace B := Below.then B b6; clear x0 x1 xf y0 y1 y2 y3 y4 yf; obtain ⟨x0, x1, xf⟩ := cells2 Er.out; obtain ⟨y0, y1, y2, y3, y4, yf⟩ := cells5 Ea.out; clear b6) | (go_at_call 12; refine (h2 _ _ _ _ _ _ RA hr).mono ?_; rintro e w4 ⟨rfl, RB, kp⟩; clear h2; have b7 := RB.below; have er' := (b7.block _ (Array.getElem?_eq_some_iff.1 Er0.out).1).trans Er0.out; have ea' := (b7.block _ (Array.getElem?_eq_some_iff.1 Ea0.out).1).trans Ea0.out; clear Er Ea x0 x1 xf y0 y1 y2 y3 y4 yf; have Er := Lib.hid er'; have Ea := Lib.hid ea'; obtain ⟨x0, x1, xf⟩ := cells2 Er.out; obtain ⟨y0, y1, y2, y3, y4, yf⟩ := cells5 Ea.out; clear er' ea'; clear B; (try replace b7 := undrew b7); have B := Below.then B0 b7; clear b7 B0 Er0 Ea0 RA RB kp hr))
        go_wp2
        have er0 := (Below.heap_setCell w4 ⟨w.heap.size + 1, 3, none⟩ (.int .i64 1) w.heap.size (by show ¬ w.heap.size = w.heap.size + 1; omega)).trans Er.out
        have ea0 := heap_set Ea.out 3 (.int .i64 1)
        rw [show (#[.int .u32 a.va, .int .u32 a.satp, .int .u32 a.status, .int .i64 2, .int .i64 a.priv] : Array Value).setIfInBounds 3 (.int .i64 1) = #[.int .u32 a.va, .int .u32 a.satp, .int .u32 a.status, .int .i64 1, .int .i64 a.priv] from rfl] at ea0
        have B0' : Below w.heap.size w (w4.setCell ⟨w.heap.size + 1, 3, none⟩ (.int .i64 1)) := B.setCell (by show w.heap.size ≤ w.heap.size + 1; omega) _
        generalize (w4.setCell ⟨w.heap.size + 1, 3, none⟩ (.int .i64 1)) = wA at *
        clear Er Ea B x0 x1 xf y0 y1 y2 y3 y4 yf
        have Er := Lib.hid er0
        have Ea := Lib.hid ea0
        have B := B0'
        clear er0 ea0 B0'
        obtain ⟨x0, x1, xf⟩ := cells2 Er.out; obtain ⟨y0, y1, y2, y3, y4, yf⟩ := cells5 Ea.out
        go_region_held3 (fun W => W.cell? ⟨w.heap.size, 0, none⟩ = some (.int .u32 base) ∧ W.cell? ⟨w.heap.size, 1, none⟩ = some (.slice ad n cap) ∧ W.cell? ⟨w.heap.size + 1, 0, none⟩ = some (.int .u32 a.va) ∧ W.cell? ⟨w.heap.size + 1, 1, none⟩ = some (.int .u32 a.satp) ∧ W.cell? ⟨w.heap.size + 1, 2, none⟩ = some (.int .u32 a.status) ∧ W.cell? ⟨w.heap.size + 1, 3, none⟩ = some (.int .i64 1) ∧ W.cell? ⟨w.heap.size + 1, 4, none⟩ = some (.int .i64 a.priv)) (exact ⟨x0, x1, y0, y1, y2, y3, y4⟩) (first | (go_at_call 11; refine (Kit15.ram_c hb0 hb1 (hW.below (by first | exact B | exact Below.then B (below_drew _))) hn).mono ?_; rintro e w3 ⟨g, r, a', k', rfl, RA, hr⟩; have Er0 := Er; have Ea0 := Ea; have B0 := B; have b6 := RA.below; (try replace b6 := undrew b6); replace Er := Lib.hid ((b6.block _ (Array.getElem?_eq_some_iff.1 Er.out).1).trans Er.out); replace Ea := Lib.hid ((b6.block _ (Array.getElem?_eq_some_iff.1 Ea.out).1).trans Ea.out); replace B := Below.then B b6; clear x0 x1 xf y0 y1 y2 y3 y4 yf; obtain ⟨x0, x1, xf⟩ := cells2 Er.out; obtain ⟨y0, y1, y2, y3, y4, yf⟩ := cells5 Ea.out; clear b6) | (go_at_call 12; refine (h1 _ _ _ _ _ _ RA hr).mono ?_; rintro e w4 ⟨rfl, RB, kp⟩; clear h1; have b7 := RB.below; have er' := (b7.block _ (Array.getElem?_eq_some_iff.1 Er0.out).1).trans Er0.out; have ea' := (b7.block _ (Array.getElem?_eq_some_iff.1 Ea0.out).1).trans Ea0.out; clear Er Ea x0 x1 xf y0 y1 y2 y3 y4 yf; have Er := Lib.hid er'; have Ea := Lib.hid ea'; obtain ⟨x0, x1, xf⟩ := cells2 Er.out; obtain ⟨y0, y1, y2, y3, y4, yf⟩ := cells5 Ea.out; clear er' ea'; clear B; (try replace b7 := undrew b7); have B := Below.then B0 b7; clear b7 B0 Er0 Ea0 RA RB kp hr))
        go_wp2
        go_ret
        exact ⟨rfl, B⟩
      · have hsb : Wk.bit a.satp 31 = true := by simpa using hsb
        have e4 : (a.satp / 2147483648 == 0) = false := by
          have h5 : Bt.tb a.satp 31 = true := hsb
          rw [Bt.top_bit ha.satp0 ha.satp1, decide_eq_true_eq] at h5
          rw [beq_eq_false_iff_ne]; omega
        obtain ⟨st, hst⟩ : ∃ z, Hid (bits .andNot .u32 a.status 262144 = z) := ⟨_, rfl⟩
        have s0 := Bt.rng_andNot ha.status0 ha.status1 (show (0 : Int) ≤ 262144 by decide) (by decide)
        rw [hst.out] at s0
        obtain ⟨st0, st1⟩ := s0
        have s18 : Wk.bit st 18 = false := by
          unfold Wk.bit
          rw [← hst.out, Bt.tb_andNot ha.status0 ha.status1 (by decide) (by decide), show Bt.tb 262144 18 = true by decide]; simp
        have hpv : a.priv = 0 ∨ a.priv = 1 := by have := ha.pri; omega
        rcases hpv with hpv | hpv
        · have ok2 : Wk.Ask.Ok ⟨a.va, a.satp, a.status, 2, 0⟩ := ⟨ha.va0, ha.va1, ha.satp0, ha.satp1, ha.status0, ha.status1, .inr (.inr rfl), .inl rfl⟩
          have ok1 : Wk.Ask.Ok ⟨a.va, a.satp, a.status, 1, 0⟩ := ⟨ha.va0, ha.va1, ha.satp0, ha.satp1, ha.status0, ha.status1, .inr (.inl rfl), .inl rfl⟩
          have ok0 : Wk.Ask.Ok ⟨a.va, a.satp, st, 1, 1⟩ := ⟨ha.va0, ha.va1, ha.satp0, ha.satp1, st0, st1, .inr (.inl rfl), .inr (.inl rfl)⟩
          obtain ⟨⟨pa, c2, t2, z2⟩, q2⟩ : ∃ z, Hid (Wk.to base zs ⟨a.va, a.satp, a.status, 2, 0⟩ = z) := ⟨_, rfl⟩
          obtain ⟨⟨pb, c1, t1, z1⟩, q1⟩ : ∃ z, Hid (Wk.to base zs ⟨a.va, a.satp, a.status, 1, 0⟩ = z) := ⟨_, rfl⟩
          obtain ⟨⟨pc, c0, t0, z0⟩, q0⟩ : ∃ z, Hid (Wk.to base zs ⟨a.va, a.satp, st, 1, 1⟩ = z) := ⟨_, rfl⟩
          have u1 : t2 = true → t1 = true ∧ pa = pb := fun h => by
            have := Wk.needs_store (base := base) (zs := zs) (a := ⟨a.va, a.satp, a.status, 2, 0⟩) (b := ⟨a.va, a.satp, a.status, 1, 0⟩) rfl rfl rfl rfl rfl rfl (by rw [q2.out]; exact h)
            rw [q2.out, q1.out] at this; exact this
          have u2 : t1 = true → t0 = false := fun h => by
            have := Wk.needs_user (base := base) (zs := zs) (a := ⟨a.va, a.satp, a.status, 1, 0⟩) (b := ⟨a.va, a.satp, st, 1, 1⟩) rfl rfl rfl s18 rfl rfl hsb (by rw [q1.out]; exact h)
            rw [q0.out] at this; exact this
          have h2 := fun W0 W g r a' k' (RA : RamAt W0 W g r base a' k' zs) (hr : r < W.heap.size) => Walk.walk_to RA hr ⟨a.va, a.satp, a.status, 2, 0⟩ ok2 q2
          have h1 := fun W0 W g r a' k' (RA : RamAt W0 W g r base a' k' zs) (hr : r < W.heap.size) => Walk.walk_to RA hr ⟨a.va, a.satp, a.status, 1, 0⟩ ok1 q1
          have h0 := fun W0 W g r a' k' (RA : RamAt W0 W g r base a' k' zs) (hr : r < W.heap.size) => Walk.walk_to RA hr ⟨a.va, a.satp, st, 1, 1⟩ ok0 q0
          clear q0 q1 q2 ok0 ok1 ok2 hsb hp3 e3 s18
          unfold Walk.askv at h0 h1 h2 ⊢
          simp only [hpv] at hri ⊢
          clear hpv
          cases t2 with
          | true =>
            obtain ⟨rfl, rfl⟩ := u1 rfl
            clear u1
            obtain rfl := u2 rfl
            clear u2
            go_enter Try.func6, Try.ntmps6
            go_wp2_with (first | (go_at_call 9; refine (hal _ _).mono ?_; rintro e w1 ⟨rfl, b5⟩; clear hal; obtain ⟨Er, Ea, B⟩ := alloc2_then b5; clear b5; replace Er := Lib.hid Er; replace Ea := Lib.hid Ea; obtain ⟨x0, x1, xf⟩ := cells2 Er.out; obtain ⟨y0, y1, y2, y3, y4, yf⟩ := cells5 Ea.out) | (go_at_call 10; refine (hri _).mono ?_; rintro e w2 ⟨rfl, b6⟩; clear hri; replace Er := Lib.hid ((b6.block _ (Array.getElem?_eq_some_iff.1 Er.out).1).trans Er.out); replace Ea := Lib.hid ((b6.block _ (Array.getElem?_eq_some_iff.1 Ea.out).1).trans Ea.out); replace B := Below.then B b6; clear x0 x1 xf y0 y1 y2 y3 y4 yf; obtain ⟨x0, x1, xf⟩ := cells2 Er.out; obtain ⟨y0, y1, y2, y3, y4, yf⟩ := cells5 Ea.out; clear b6))
            have er0 := (Below.heap_setCell w2 ⟨w.heap.size + 1, 3, none⟩ (.int .i64 2) w.heap.size (by show ¬ w.heap.size = w.heap.size + 1; omega)).trans Er.out
            have ea0 := heap_set Ea.out 3 (.int .i64 2)
            rw [show (#[.int .u32 a.va, .int .u32 a.satp, .int .u32 a.status, .int .i64 a.access, .int .i64 0] : Array Value).setIfInBounds 3 (.int .i64 2) = #[.int .u32 a.va, .int .u32 a.satp, .int .u32 a.status, .int .i64 2, .int .i64 0] from rfl] at ea0
            have B0' : Below w.heap.size w (w2.setCell ⟨w.heap.size + 1, 3, none⟩ (.int .i64 2)) := B.setCell (by show w.heap.size ≤ w.heap.size + 1; omega) _
            generalize (w2.setCell ⟨w.heap.size + 1, 3, none⟩ (.int .i64 2)) = wA at *
            clear Er Ea B x0 x1 xf y0 y1 y2 y3 y4 yf
            have Er := Lib.hid er0
            have Ea := Lib.hid ea0
            have B := B0'
            clear er0 ea0 B0'
            obtain ⟨x0, x1, xf⟩ := cells2 Er.out; obtain ⟨y0, y1, y2, y3, y4, yf⟩ := cells5 Ea.out
            go_region_held3 (fun W => W.cell? ⟨w.heap.size, 0, none⟩ = some (.int .u32 base) ∧ W.cell? ⟨w.heap.size, 1, none⟩ = some (.slice ad n cap) ∧ W.cell? ⟨w.heap.size + 1, 0, none⟩ = some (.int .u32 a.va) ∧ W.cell? ⟨w.heap.size + 1, 1, none⟩ = some (.int .u32 a.satp) ∧ W.cell? ⟨w.heap.size + 1, 2, none⟩ = some (.int .u32 a.status) ∧ W.cell? ⟨w.heap.size + 1, 3, none⟩ = some (.int .i64 2) ∧ W.cell? ⟨w.heap.size + 1, 4, none⟩ = some (.int .i64 0)) (exact ⟨x0, x1, y0, y1, y2, y3, y4⟩) (first | (go_at_call 11; refine (Kit15.ram_c hb0 hb1 (hW.below (by first | exact B | exact Below.then B (below_drew _))) hn).mono ?_; rintro e w3 ⟨g, r, a', k', rfl, RA, hr⟩; have Er0 := Er; have Ea0 := Ea; have B0 := B; have b6 := RA.below; (try replace b6 := undrew b6); replace Er := Lib.hid ((b6.block _ (Array.getElem?_eq_some_iff.1 Er.out).1).trans Er.out); replace Ea := Lib.hid ((b6.block _ (Array.getElem?_eq_some_iff.1 Ea.out).1).trans Ea.out); replace B := Below.then B b6; clear x0 x1 xf y0 y1 y2 y3 y4 yf; obtain ⟨x0, x1, xf⟩ := cells2 Er.out; obtain ⟨y0, y1, y2, y3, y4, yf⟩ := cells5 Ea.out; clear b6) | (go_at_call 12; refine (h2 _ _ _ _ _ _ RA hr).mono ?_; rintro e w4 ⟨rfl, RB, kp⟩; clear h2; have b7 := RB.below; have er' := (b7.block _ (Array.getElem?_eq_some_iff.1 Er0.out).1).trans Er0.out; have ea' := (b7.block _ (Array.getElem?_eq_some_iff.1 Ea0.out).1).trans Ea0.out; clear Er Ea x0 x1 xf y0 y1 y2 y3 y4 yf; have Er := Lib.hid er'; have Ea := Lib.hid ea'; obtain ⟨x0, x1, xf⟩ := cells2 Er.out; obtain ⟨y0, y1, y2, y3, y4, yf⟩ := cells5 Ea.out; clear er' ea'; clear B; (try replace b7 := undrew b7); have B := Below.then B0 b7; clear b7 B0 Er0 Ea0 RA RB kp hr))
            go_wp2
            have er0 := (Below.heap_setCell w4 ⟨w.heap.size + 1, 3, none⟩ (.int .i64 1) w.heap.size (by show ¬ w.heap.size = w.heap.size + 1; omega)).trans Er.out
            have ea0 := heap_set Ea.out 3 (.int .i64 1)
            rw [show (#[.int .u32 a.va, .int .u32 a.satp, .int .u32 a.status, .int .i64 2, .int .i64 0] : Array Value).setIfInBounds 3 (.int .i64 1) = #[.int .u32 a.va, .int .u32 a.satp, .int .u32 a.status, .int .i64 1, .int .i64 0] from rfl] at ea0
            have B0' : Below w.heap.size w (w4.setCell ⟨w.heap.size + 1, 3, none⟩ (.int .i64 1)) := B.setCell (by show w.heap.size ≤ w.heap.size + 1; omega) _
            generalize (w4.setCell ⟨w.heap.size + 1, 3, none⟩ (.int .i64 1)) = wA at *
            clear Er Ea B x0 x1 xf y0 y1 y2 y3 y4 yf
            have Er := Lib.hid er0
            have Ea := Lib.hid ea0
            have B := B0'
            clear er0 ea0 B0'
            obtain ⟨x0, x1, xf⟩ := cells2 Er.out; obtain ⟨y0, y1, y2, y3, y4, yf⟩ := cells5 Ea.out
            go_region_held3 (fun W => W.cell? ⟨w.heap.size, 0, none⟩ = some (.int .u32 base) ∧ W.cell? ⟨w.heap.size, 1, none⟩ = some (.slice ad n cap) ∧ W.cell? ⟨w.heap.size + 1, 0, none⟩ = some (.int .u32 a.va) ∧ W.cell? ⟨w.heap.size + 1, 1, none⟩ = some (.int .u32 a.satp) ∧ W.cell? ⟨w.heap.size + 1, 2, none⟩ = some (.int .u32 a.status) ∧ W.cell? ⟨w.heap.size + 1, 3, none⟩ = some (.int .i64 1) ∧ W.cell? ⟨w.heap.size + 1, 4, none⟩ = some (.int .i64 0)) (exact ⟨x0, x1, y0, y1, y2, y3, y4⟩) (first | (go_at_call 11; refine (Kit15.ram_c hb0 hb1 (hW.below (by first | exact B | exact Below.then B (below_drew _))) hn).mono ?_; rintro e w3 ⟨g, r, a', k', rfl, RA, hr⟩; have Er0 := Er; have Ea0 := Ea; have B0 := B; have b6 := RA.below; (try replace b6 := undrew b6); replace Er := Lib.hid ((b6.block _ (Array.getElem?_eq_some_iff.1 Er.out).1).trans Er.out); replace Ea := Lib.hid ((b6.block _ (Array.getElem?_eq_some_iff.1 Ea.out).1).trans Ea.out); replace B := Below.then B b6; clear x0 x1 xf y0 y1 y2 y3 y4 yf; obtain ⟨x0, x1, xf⟩ := cells2 Er.out; obtain ⟨y0, y1, y2, y3, y4, yf⟩ := cells5 Ea.out; clear b6) | (go_at_call 12; refine (h1 _ _ _ _ _ _ RA hr).mono ?_; rintro e w4 ⟨rfl, RB, kp⟩; clear h1; have b7 := RB.below; have er' := (b7.block _ (Array.getElem?_eq_some_iff.1 Er0.out).1).trans Er0.out; have ea' := (b7.block _ (Array.getElem?_eq_some_iff.1 Ea0.out).1).trans Ea0.out; clear Er Ea x0 x1 xf y0 y1 y2 y3 y4 yf; have Er := Lib.hid er'; have Ea := Lib.hid ea'; obtain ⟨x0, x1, xf⟩ := cells2 Er.out; obtain ⟨y0, y1, y2, y3, y4, yf⟩ := cells5 Ea.out; clear er' ea'; clear B; (try replace b7 := undrew b7); have B := Below.then B0 b7; clear b7 B0 Er0 Ea0 RA RB kp hr))
            go_wp2
            rw [show bits .andNot .u32 a.status 262144 = st from hst.out]
            have er0 := (Below.heap_setCell w4 ⟨w.heap.size + 1, 4, none⟩ (.int .i64 1) w.heap.size (by show ¬ w.heap.size = w.heap.size + 1; omega)).trans Er.out
            have ea0 := heap_set Ea.out 4 (.int .i64 1)
            rw [show (#[.int .u32 a.va, .int .u32 a.satp, .int .u32 a.status, .int .i64 1, .int .i64 0] : Array Value).setIfInBounds 4 (.int .i64 1) = #[.int .u32 a.va, .int .u32 a.satp, .int .u32 a.status, .int .i64 1, .int .i64 1] from rfl] at ea0
            have B0' : Below w.heap.size w (w4.setCell ⟨w.heap.size + 1, 4, none⟩ (.int .i64 1)) := B.setCell (by show w.heap.size ≤ w.heap.size + 1; omega) _
            have er1 := (Below.heap_setCell (w4.setCell ⟨w.heap.size + 1, 4, none⟩ (.int .i64 1)) ⟨w.heap.size + 1, 2, none⟩ (.int .u32 st) w.heap.size (by show ¬ w.heap.size = w.heap.size + 1; omega)).trans er0
            have ea1 := heap_set ea0 2 (.int .u32 st)
            rw [show (#[.int .u32 a.va, .int .u32 a.satp, .int .u32 a.status, .int .i64 1, .int .i64 1] : Array Value).setIfInBounds 2 (.int .u32 st) = #[.int .u32 a.va, .int .u32 a.satp, .int .u32 st, .int .i64 1, .int .i64 1] from rfl] at ea1
            have B1' : Below w.heap.size w ((w4.setCell ⟨w.heap.size + 1, 4, none⟩ (.int .i64 1)).setCell ⟨w.heap.size + 1, 2, none⟩ (.int .u32 st)) := B0'.setCell (by show w.heap.size ≤ w.heap.size + 1; omega) _
            generalize ((w4.setCell ⟨w.heap.size + 1, 4, none⟩ (.int .i64 1)).setCell ⟨w.heap.size + 1, 2, none⟩ (.int .u32 st)) = wA at *
            clear Er Ea B x0 x1 xf y0 y1 y2 y3 y4 yf
            have Er := Lib.hid er1
            have Ea := Lib.hid ea1
            have B := B1'
            clear er0 ea0 B0' er1 ea1 B1'
            obtain ⟨x0, x1, xf⟩ := cells2 Er.out; obtain ⟨y0, y1, y2, y3, y4, yf⟩ := cells5 Ea.out
            go_region_held3 (fun W => W.cell? ⟨w.heap.size, 0, none⟩ = some (.int .u32 base) ∧ W.cell? ⟨w.heap.size, 1, none⟩ = some (.slice ad n cap) ∧ W.cell? ⟨w.heap.size + 1, 0, none⟩ = some (.int .u32 a.va) ∧ W.cell? ⟨w.heap.size + 1, 1, none⟩ = some (.int .u32 a.satp) ∧ W.cell? ⟨w.heap.size + 1, 2, none⟩ = some (.int .u32 st) ∧ W.cell? ⟨w.heap.size + 1, 3, none⟩ = some (.int .i64 1) ∧ W.cell? ⟨w.heap.size + 1, 4, none⟩ = some (.int .i64 1)) (exact ⟨x0, x1, y0, y1, y2, y3, y4⟩) (first | (go_at_call 11; refine (Kit15.ram_c hb0 hb1 (hW.below (by first | exact B | exact Below.then B (below_drew _))) hn).mono ?_; rintro e w3 ⟨g, r, a', k', rfl, RA, hr⟩; have Er0 := Er; have Ea0 := Ea; have B0 := B; have b6 := RA.below; (try replace b6 := undrew b6); replace Er := Lib.hid ((b6.block _ (Array.getElem?_eq_some_iff.1 Er.out).1).trans Er.out); replace Ea := Lib.hid ((b6.block _ (Array.getElem?_eq_some_iff.1 Ea.out).1).trans Ea.out); replace B := Below.then B b6; clear x0 x1 xf y0 y1 y2 y3 y4 yf; obtain ⟨x0, x1, xf⟩ := cells2 Er.out; obtain ⟨y0, y1, y2, y3, y4, yf⟩ := cells5 Ea.out; clear b6) | (go_at_call 12; refine (h0 _ _ _ _ _ _ RA hr).mono ?_; rintro e w4 ⟨rfl, RB, kp⟩; clear h0; have b7 := RB.below; have er' := (b7.block _ (Array.getElem?_eq_some_iff.1 Er0.out).1).trans Er0.out; have ea' := (b7.block _ (Array.getElem?_eq_some_iff.1 Ea0.out).1).trans Ea0.out; clear Er Ea x0 x1 xf y0 y1 y2 y3 y4 yf; have Er := Lib.hid er'; have Ea := Lib.hid ea'; obtain ⟨x0, x1, xf⟩ := cells2 Er.out; obtain ⟨y0, y1, y2, y3, y4, yf⟩ := cells5 Ea.out; clear er' ea'; clear B; (try replace b7 := undrew b7); have B := Below.then B0 b7; clear b7 B0 Er0 Ea0 RA RB kp hr))
            go_wp2
            go_ret
            exact ⟨rfl, B⟩
          | false =>
            clear u1
            cases t1 with
            | true =>
              obtain rfl := u2 rfl
              clear u2
              go_enter Try.func6, Try.ntmps6
              go_wp2_with (first | (go_at_call 9; refine (hal _ _).mono ?_; rintro e w1 ⟨rfl, b5⟩; clear hal; obtain ⟨Er, Ea, B⟩ := alloc2_then b5; clear b5; replace Er := Lib.hid Er; replace Ea := Lib.hid Ea; obtain ⟨x0, x1, xf⟩ := cells2 Er.out; obtain ⟨y0, y1, y2, y3, y4, yf⟩ := cells5 Ea.out) | (go_at_call 10; refine (hri _).mono ?_; rintro e w2 ⟨rfl, b6⟩; clear hri; replace Er := Lib.hid ((b6.block _ (Array.getElem?_eq_some_iff.1 Er.out).1).trans Er.out); replace Ea := Lib.hid ((b6.block _ (Array.getElem?_eq_some_iff.1 Ea.out).1).trans Ea.out); replace B := Below.then B b6; clear x0 x1 xf y0 y1 y2 y3 y4 yf; obtain ⟨x0, x1, xf⟩ := cells2 Er.out; obtain ⟨y0, y1, y2, y3, y4, yf⟩ := cells5 Ea.out; clear b6))
              have er0 := (Below.heap_setCell w2 ⟨w.heap.size + 1, 3, none⟩ (.int .i64 2) w.heap.size (by show ¬ w.heap.size = w.heap.size + 1; omega)).trans Er.out
              have ea0 := heap_set Ea.out 3 (.int .i64 2)
              rw [show (#[.int .u32 a.va, .int .u32 a.satp, .int .u32 a.status, .int .i64 a.access, .int .i64 0] : Array Value).setIfInBounds 3 (.int .i64 2) = #[.int .u32 a.va, .int .u32 a.satp, .int .u32 a.status, .int .i64 2, .int .i64 0] from rfl] at ea0
              have B0' : Below w.heap.size w (w2.setCell ⟨w.heap.size + 1, 3, none⟩ (.int .i64 2)) := B.setCell (by show w.heap.size ≤ w.heap.size + 1; omega) _
              generalize (w2.setCell ⟨w.heap.size + 1, 3, none⟩ (.int .i64 2)) = wA at *
              clear Er Ea B x0 x1 xf y0 y1 y2 y3 y4 yf
              have Er := Lib.hid er0
              have Ea := Lib.hid ea0
              have B := B0'
              clear er0 ea0 B0'
              obtain ⟨x0, x1, xf⟩ := cells2 Er.out; obtain ⟨y0, y1, y2, y3, y4, yf⟩ := cells5 Ea.out
              go_region_held3 (fun W => W.cell? ⟨w.heap.size, 0, none⟩ = some (.int .u32 base) ∧ W.cell? ⟨w.heap.size, 1, none⟩ = some (.slice ad n cap) ∧ W.cell? ⟨w.heap.size + 1, 0, none⟩ = some (.int .u32 a.va) ∧ W.cell? ⟨w.heap.size + 1, 1, none⟩ = some (.int .u32 a.satp) ∧ W.cell? ⟨w.heap.size + 1, 2, none⟩ = some (.int .u32 a.status) ∧ W.cell? ⟨w.heap.size + 1, 3, none⟩ = some (.int .i64 2) ∧ W.cell? ⟨w.heap.size + 1, 4, none⟩ = some (.int .i64 0)) (exact ⟨x0, x1, y0, y1, y2, y3, y4⟩) (first | (go_at_call 11; refine (Kit15.ram_c hb0 hb1 (hW.below (by first | exact B | exact Below.then B (below_drew _))) hn).mono ?_; rintro e w3 ⟨g, r, a', k', rfl, RA, hr⟩; have Er0 := Er; have Ea0 := Ea; have B0 := B; have b6 := RA.below; (try replace b6 := undrew b6); replace Er := Lib.hid ((b6.block _ (Array.getElem?_eq_some_iff.1 Er.out).1).trans Er.out); replace Ea := Lib.hid ((b6.block _ (Array.getElem?_eq_some_iff.1 Ea.out).1).trans Ea.out); replace B := Below.then B b6; clear x0 x1 xf y0 y1 y2 y3 y4 yf; obtain ⟨x0, x1, xf⟩ := cells2 Er.out; obtain ⟨y0, y1, y2, y3, y4, yf⟩ := cells5 Ea.out; clear b6) | (go_at_call 12; refine (h2 _ _ _ _ _ _ RA hr).mono ?_; rintro e w4 ⟨rfl, RB, kp⟩; clear h2; have b7 := RB.below; have er' := (b7.block _ (Array.getElem?_eq_some_iff.1 Er0.out).1).trans Er0.out; have ea' := (b7.block _ (Array.getElem?_eq_some_iff.1 Ea0.out).1).trans Ea0.out; clear Er Ea x0 x1 xf y0 y1 y2 y3 y4 yf; have Er := Lib.hid er'; have Ea := Lib.hid ea'; obtain ⟨x0, x1, xf⟩ := cells2 Er.out; obtain ⟨y0, y1, y2, y3, y4, yf⟩ := cells5 Ea.out; clear er' ea'; clear B; (try replace b7 := undrew b7); have B := Below.then B0 b7; clear b7 B0 Er0 Ea0 RA RB kp hr))
              go_wp2
              have er0 := (Below.heap_setCell w4 ⟨w.heap.size + 1, 3, none⟩ (.int .i64 1) w.heap.size (by show ¬ w.heap.size = w.heap.size + 1; omega)).trans Er.out
              have ea0 := heap_set Ea.out 3 (.int .i64 1)
              rw [show (#[.int .u32 a.va, .int .u32 a.satp, .int .u32 a.status, .int .i64 2, .int .i64 0] : Array Value).setIfInBounds 3 (.int .i64 1) = #[.int .u32 a.va, .int .u32 a.satp, .int .u32 a.status, .int .i64 1, .int .i64 0] from rfl] at ea0
              have B0' : Below w.heap.size w (w4.setCell ⟨w.heap.size + 1, 3, none⟩ (.int .i64 1)) := B.setCell (by show w.heap.size ≤ w.heap.size + 1; omega) _
              generalize (w4.setCell ⟨w.heap.size + 1, 3, none⟩ (.int .i64 1)) = wA at *
              clear Er Ea B x0 x1 xf y0 y1 y2 y3 y4 yf
              have Er := Lib.hid er0
              have Ea := Lib.hid ea0
              have B := B0'
              clear er0 ea0 B0'
              obtain ⟨x0, x1, xf⟩ := cells2 Er.out; obtain ⟨y0, y1, y2, y3, y4, yf⟩ := cells5 Ea.out
              go_region_held3 (fun W => W.cell? ⟨w.heap.size, 0, none⟩ = some (.int .u32 base) ∧ W.cell? ⟨w.heap.size, 1, none⟩ = some (.slice ad n cap) ∧ W.cell? ⟨w.heap.size + 1, 0, none⟩ = some (.int .u32 a.va) ∧ W.cell? ⟨w.heap.size + 1, 1, none⟩ = some (.int .u32 a.satp) ∧ W.cell? ⟨w.heap.size + 1, 2, none⟩ = some (.int .u32 a.status) ∧ W.cell? ⟨w.heap.size + 1, 3, none⟩ = some (.int .i64 1) ∧ W.cell? ⟨w.heap.size + 1, 4, none⟩ = some (.int .i64 0)) (exact ⟨x0, x1, y0, y1, y2, y3, y4⟩) (first | (go_at_call 11; refine (Kit15.ram_c hb0 hb1 (hW.below (by first | exact B | exact Below.then B (below_drew _))) hn).mono ?_; rintro e w3 ⟨g, r, a', k', rfl, RA, hr⟩; have Er0 := Er; have Ea0 := Ea; have B0 := B; have b6 := RA.below; (try replace b6 := undrew b6); replace Er := Lib.hid ((b6.block _ (Array.getElem?_eq_some_iff.1 Er.out).1).trans Er.out); replace Ea := Lib.hid ((b6.block _ (Array.getElem?_eq_some_iff.1 Ea.out).1).trans Ea.out); replace B := Below.then B b6; clear x0 x1 xf y0 y1 y2 y3 y4 yf; obtain ⟨x0, x1, xf⟩ := cells2 Er.out; obtain ⟨y0, y1, y2, y3, y4, yf⟩ := cells5 Ea.out; clear b6) | (go_at_call 12; refine (h1 _ _ _ _ _ _ RA hr).mono ?_; rintro e w4 ⟨rfl, RB, kp⟩; clear h1; have b7 := RB.below; have er' := (b7.block _ (Array.getElem?_eq_some_iff.1 Er0.out).1).trans Er0.out; have ea' := (b7.block _ (Array.getElem?_eq_some_iff.1 Ea0.out).1).trans Ea0.out; clear Er Ea x0 x1 xf y0 y1 y2 y3 y4 yf; have Er := Lib.hid er'; have Ea := Lib.hid ea'; obtain ⟨x0, x1, xf⟩ := cells2 Er.out; obtain ⟨y0, y1, y2, y3, y4, yf⟩ := cells5 Ea.out; clear er' ea'; clear B; (try replace b7 := undrew b7); have B := Below.then B0 b7; clear b7 B0 Er0 Ea0 RA RB kp hr))
              go_wp2
              rw [show bits .andNot .u32 a.status 262144 = st from hst.out]
              have er0 := (Below.heap_setCell w4 ⟨w.heap.size + 1, 4, none⟩ (.int .i64 1) w.heap.size (by show ¬ w.heap.size = w.heap.size + 1; omega)).trans Er.out
              have ea0 := heap_set Ea.out 4 (.int .i64 1)
              rw [show (#[.int .u32 a.va, .int .u32 a.satp, .int .u32 a.status, .int .i64 1, .int .i64 0] : Array Value).setIfInBounds 4 (.int .i64 1) = #[.int .u32 a.va, .int .u32 a.satp, .int .u32 a.status, .int .i64 1, .int .i64 1] from rfl] at ea0
              have B0' : Below w.heap.size w (w4.setCell ⟨w.heap.size + 1, 4, none⟩ (.int .i64 1)) := B.setCell (by show w.heap.size ≤ w.heap.size + 1; omega) _
              have er1 := (Below.heap_setCell (w4.setCell ⟨w.heap.size + 1, 4, none⟩ (.int .i64 1)) ⟨w.heap.size + 1, 2, none⟩ (.int .u32 st) w.heap.size (by show ¬ w.heap.size = w.heap.size + 1; omega)).trans er0
              have ea1 := heap_set ea0 2 (.int .u32 st)
              rw [show (#[.int .u32 a.va, .int .u32 a.satp, .int .u32 a.status, .int .i64 1, .int .i64 1] : Array Value).setIfInBounds 2 (.int .u32 st) = #[.int .u32 a.va, .int .u32 a.satp, .int .u32 st, .int .i64 1, .int .i64 1] from rfl] at ea1
              have B1' : Below w.heap.size w ((w4.setCell ⟨w.heap.size + 1, 4, none⟩ (.int .i64 1)).setCell ⟨w.heap.size + 1, 2, none⟩ (.int .u32 st)) := B0'.setCell (by show w.heap.size ≤ w.heap.size + 1; omega) _
              generalize ((w4.setCell ⟨w.heap.size + 1, 4, none⟩ (.int .i64 1)).setCell ⟨w.heap.size + 1, 2, none⟩ (.int .u32 st)) = wA at *
              clear Er Ea B x0 x1 xf y0 y1 y2 y3 y4 yf
              have Er := Lib.hid er1
              have Ea := Lib.hid ea1
              have B := B1'
              clear er0 ea0 B0' er1 ea1 B1'
              obtain ⟨x0, x1, xf⟩ := cells2 Er.out; obtain ⟨y0, y1, y2, y3, y4, yf⟩ := cells5 Ea.out
              go_region_held3 (fun W => W.cell? ⟨w.heap.size, 0, none⟩ = some (.int .u32 base) ∧ W.cell? ⟨w.heap.size, 1, none⟩ = some (.slice ad n cap) ∧ W.cell? ⟨w.heap.size + 1, 0, none⟩ = some (.int .u32 a.va) ∧ W.cell? ⟨w.heap.size + 1, 1, none⟩ = some (.int .u32 a.satp) ∧ W.cell? ⟨w.heap.size + 1, 2, none⟩ = some (.int .u32 st) ∧ W.cell? ⟨w.heap.size + 1, 3, none⟩ = some (.int .i64 1) ∧ W.cell? ⟨w.heap.size + 1, 4, none⟩ = some (.int .i64 1)) (exact ⟨x0, x1, y0, y1, y2, y3, y4⟩) (first | (go_at_call 11; refine (Kit15.ram_c hb0 hb1 (hW.below (by first | exact B | exact Below.then B (below_drew _))) hn).mono ?_; rintro e w3 ⟨g, r, a', k', rfl, RA, hr⟩; have Er0 := Er; have Ea0 := Ea; have B0 := B; have b6 := RA.below; (try replace b6 := undrew b6); replace Er := Lib.hid ((b6.block _ (Array.getElem?_eq_some_iff.1 Er.out).1).trans Er.out); replace Ea := Lib.hid ((b6.block _ (Array.getElem?_eq_some_iff.1 Ea.out).1).trans Ea.out); replace B := Below.then B b6; clear x0 x1 xf y0 y1 y2 y3 y4 yf; obtain ⟨x0, x1, xf⟩ := cells2 Er.out; obtain ⟨y0, y1, y2, y3, y4, yf⟩ := cells5 Ea.out; clear b6) | (go_at_call 12; refine (h0 _ _ _ _ _ _ RA hr).mono ?_; rintro e w4 ⟨rfl, RB, kp⟩; clear h0; have b7 := RB.below; have er' := (b7.block _ (Array.getElem?_eq_some_iff.1 Er0.out).1).trans Er0.out; have ea' := (b7.block _ (Array.getElem?_eq_some_iff.1 Ea0.out).1).trans Ea0.out; clear Er Ea x0 x1 xf y0 y1 y2 y3 y4 yf; have Er := Lib.hid er'; have Ea := Lib.hid ea'; obtain ⟨x0, x1, xf⟩ := cells2 Er.out; obtain ⟨y0, y1, y2, y3, y4, yf⟩ := cells5 Ea.out; clear er' ea'; clear B; (try replace b7 := undrew b7); have B := Below.then B0 b7; clear b7 B0 Er0 Ea0 RA RB kp hr))
              go_wp2
              go_ret
              exact ⟨rfl, B⟩
            | false =>
              clear u2
              go_enter Try.func6, Try.ntmps6
              go_wp2_with (first | (go_at_call 9; refine (hal _ _).mono ?_; rintro e w1 ⟨rfl, b5⟩; clear hal; obtain ⟨Er, Ea, B⟩ := alloc2_then b5; clear b5; replace Er := Lib.hid Er; replace Ea := Lib.hid Ea; obtain ⟨x0, x1, xf⟩ := cells2 Er.out; obtain ⟨y0, y1, y2, y3, y4, yf⟩ := cells5 Ea.out) | (go_at_call 10; refine (hri _).mono ?_; rintro e w2 ⟨rfl, b6⟩; clear hri; replace Er := Lib.hid ((b6.block _ (Array.getElem?_eq_some_iff.1 Er.out).1).trans Er.out); replace Ea := Lib.hid ((b6.block _ (Array.getElem?_eq_some_iff.1 Ea.out).1).trans Ea.out); replace B := Below.then B b6; clear x0 x1 xf y0 y1 y2 y3 y4 yf; obtain ⟨x0, x1, xf⟩ := cells2 Er.out; obtain ⟨y0, y1, y2, y3, y4, yf⟩ := cells5 Ea.out; clear b6))
              have er0 := (Below.heap_setCell w2 ⟨w.heap.size + 1, 3, none⟩ (.int .i64 2) w.heap.size (by show ¬ w.heap.size = w.heap.size + 1; omega)).trans Er.out
              have ea0 := heap_set Ea.out 3 (.int .i64 2)
              rw [show (#[.int .u32 a.va, .int .u32 a.satp, .int .u32 a.status, .int .i64 a.access, .int .i64 0] : Array Value).setIfInBounds 3 (.int .i64 2) = #[.int .u32 a.va, .int .u32 a.satp, .int .u32 a.status, .int .i64 2, .int .i64 0] from rfl] at ea0
              have B0' : Below w.heap.size w (w2.setCell ⟨w.heap.size + 1, 3, none⟩ (.int .i64 2)) := B.setCell (by show w.heap.size ≤ w.heap.size + 1; omega) _
              generalize (w2.setCell ⟨w.heap.size + 1, 3, none⟩ (.int .i64 2)) = wA at *
              clear Er Ea B x0 x1 xf y0 y1 y2 y3 y4 yf
              have Er := Lib.hid er0
              have Ea := Lib.hid ea0
              have B := B0'
              clear er0 ea0 B0'
              obtain ⟨x0, x1, xf⟩ := cells2 Er.out; obtain ⟨y0, y1, y2, y3, y4, yf⟩ := cells5 Ea.out
              go_region_held3 (fun W => W.cell? ⟨w.heap.size, 0, none⟩ = some (.int .u32 base) ∧ W.cell? ⟨w.heap.size, 1, none⟩ = some (.slice ad n cap) ∧ W.cell? ⟨w.heap.size + 1, 0, none⟩ = some (.int .u32 a.va) ∧ W.cell? ⟨w.heap.size + 1, 1, none⟩ = some (.int .u32 a.satp) ∧ W.cell? ⟨w.heap.size + 1, 2, none⟩ = some (.int .u32 a.status) ∧ W.cell? ⟨w.heap.size + 1, 3, none⟩ = some (.int .i64 2) ∧ W.cell? ⟨w.heap.size + 1, 4, none⟩ = some (.int .i64 0)) (exact ⟨x0, x1, y0, y1, y2, y3, y4⟩) (first | (go_at_call 11; refine (Kit15.ram_c hb0 hb1 (hW.below (by first | exact B | exact Below.then B (below_drew _))) hn).mono ?_; rintro e w3 ⟨g, r, a', k', rfl, RA, hr⟩; have Er0 := Er; have Ea0 := Ea; have B0 := B; have b6 := RA.below; (try replace b6 := undrew b6); replace Er := Lib.hid ((b6.block _ (Array.getElem?_eq_some_iff.1 Er.out).1).trans Er.out); replace Ea := Lib.hid ((b6.block _ (Array.getElem?_eq_some_iff.1 Ea.out).1).trans Ea.out); replace B := Below.then B b6; clear x0 x1 xf y0 y1 y2 y3 y4 yf; obtain ⟨x0, x1, xf⟩ := cells2 Er.out; obtain ⟨y0, y1, y2, y3, y4, yf⟩ := cells5 Ea.out; clear b6) | (go_at_call 12; refine (h2 _ _ _ _ _ _ RA hr).mono ?_; rintro e w4 ⟨rfl, RB, kp⟩; clear h2; have b7 := RB.below; have er' := (b7.block _ (Array.getElem?_eq_some_iff.1 Er0.out).1).trans Er0.out; have ea' := (b7.block _ (Array.getElem?_eq_some_iff.1 Ea0.out).1).trans Ea0.out; clear Er Ea x0 x1 xf y0 y1 y2 y3 y4 yf; have Er := Lib.hid er'; have Ea := Lib.hid ea'; obtain ⟨x0, x1, xf⟩ := cells2 Er.out; obtain ⟨y0, y1, y2, y3, y4, yf⟩ := cells5 Ea.out; clear er' ea'; clear B; (try replace b7 := undrew b7); have B := Below.then B0 b7; clear b7 B0 Er0 Ea0 RA RB kp hr))
              go_wp2
              have er0 := (Below.heap_setCell w4 ⟨w.heap.size + 1, 3, none⟩ (.int .i64 1) w.heap.size (by show ¬ w.heap.size = w.heap.size + 1; omega)).trans Er.out
              have ea0 := heap_set Ea.out 3 (.int .i64 1)
              rw [show (#[.int .u32 a.va, .int .u32 a.satp, .int .u32 a.status, .int .i64 2, .int .i64 0] : Array Value).setIfInBounds 3 (.int .i64 1) = #[.int .u32 a.va, .int .u32 a.satp, .int .u32 a.status, .int .i64 1, .int .i64 0] from rfl] at ea0
              have B0' : Below w.heap.size w (w4.setCell ⟨w.heap.size + 1, 3, none⟩ (.int .i64 1)) := B.setCell (by show w.heap.size ≤ w.heap.size + 1; omega) _
              generalize (w4.setCell ⟨w.heap.size + 1, 3, none⟩ (.int .i64 1)) = wA at *
              clear Er Ea B x0 x1 xf y0 y1 y2 y3 y4 yf
              have Er := Lib.hid er0
              have Ea := Lib.hid ea0
              have B := B0'
              clear er0 ea0 B0'
              obtain ⟨x0, x1, xf⟩ := cells2 Er.out; obtain ⟨y0, y1, y2, y3, y4, yf⟩ := cells5 Ea.out
              go_region_held3 (fun W => W.cell? ⟨w.heap.size, 0, none⟩ = some (.int .u32 base) ∧ W.cell? ⟨w.heap.size, 1, none⟩ = some (.slice ad n cap) ∧ W.cell? ⟨w.heap.size + 1, 0, none⟩ = some (.int .u32 a.va) ∧ W.cell? ⟨w.heap.size + 1, 1, none⟩ = some (.int .u32 a.satp) ∧ W.cell? ⟨w.heap.size + 1, 2, none⟩ = some (.int .u32 a.status) ∧ W.cell? ⟨w.heap.size + 1, 3, none⟩ = some (.int .i64 1) ∧ W.cell? ⟨w.heap.size + 1, 4, none⟩ = some (.int .i64 0)) (exact ⟨x0, x1, y0, y1, y2, y3, y4⟩) (first | (go_at_call 11; refine (Kit15.ram_c hb0 hb1 (hW.below (by first | exact B | exact Below.then B (below_drew _))) hn).mono ?_; rintro e w3 ⟨g, r, a', k', rfl, RA, hr⟩; have Er0 := Er; have Ea0 := Ea; have B0 := B; have b6 := RA.below; (try replace b6 := undrew b6); replace Er := Lib.hid ((b6.block _ (Array.getElem?_eq_some_iff.1 Er.out).1).trans Er.out); replace Ea := Lib.hid ((b6.block _ (Array.getElem?_eq_some_iff.1 Ea.out).1).trans Ea.out); replace B := Below.then B b6; clear x0 x1 xf y0 y1 y2 y3 y4 yf; obtain ⟨x0, x1, xf⟩ := cells2 Er.out; obtain ⟨y0, y1, y2, y3, y4, yf⟩ := cells5 Ea.out; clear b6) | (go_at_call 12; refine (h1 _ _ _ _ _ _ RA hr).mono ?_; rintro e w4 ⟨rfl, RB, kp⟩; clear h1; have b7 := RB.below; have er' := (b7.block _ (Array.getElem?_eq_some_iff.1 Er0.out).1).trans Er0.out; have ea' := (b7.block _ (Array.getElem?_eq_some_iff.1 Ea0.out).1).trans Ea0.out; clear Er Ea x0 x1 xf y0 y1 y2 y3 y4 yf; have Er := Lib.hid er'; have Ea := Lib.hid ea'; obtain ⟨x0, x1, xf⟩ := cells2 Er.out; obtain ⟨y0, y1, y2, y3, y4, yf⟩ := cells5 Ea.out; clear er' ea'; clear B; (try replace b7 := undrew b7); have B := Below.then B0 b7; clear b7 B0 Er0 Ea0 RA RB kp hr))
              go_wp2
              rw [show bits .andNot .u32 a.status 262144 = st from hst.out]
              have er0 := (Below.heap_setCell w4 ⟨w.heap.size + 1, 4, none⟩ (.int .i64 1) w.heap.size (by show ¬ w.heap.size = w.heap.size + 1; omega)).trans Er.out
              have ea0 := heap_set Ea.out 4 (.int .i64 1)
              rw [show (#[.int .u32 a.va, .int .u32 a.satp, .int .u32 a.status, .int .i64 1, .int .i64 0] : Array Value).setIfInBounds 4 (.int .i64 1) = #[.int .u32 a.va, .int .u32 a.satp, .int .u32 a.status, .int .i64 1, .int .i64 1] from rfl] at ea0
              have B0' : Below w.heap.size w (w4.setCell ⟨w.heap.size + 1, 4, none⟩ (.int .i64 1)) := B.setCell (by show w.heap.size ≤ w.heap.size + 1; omega) _
              have er1 := (Below.heap_setCell (w4.setCell ⟨w.heap.size + 1, 4, none⟩ (.int .i64 1)) ⟨w.heap.size + 1, 2, none⟩ (.int .u32 st) w.heap.size (by show ¬ w.heap.size = w.heap.size + 1; omega)).trans er0
              have ea1 := heap_set ea0 2 (.int .u32 st)
              rw [show (#[.int .u32 a.va, .int .u32 a.satp, .int .u32 a.status, .int .i64 1, .int .i64 1] : Array Value).setIfInBounds 2 (.int .u32 st) = #[.int .u32 a.va, .int .u32 a.satp, .int .u32 st, .int .i64 1, .int .i64 1] from rfl] at ea1
              have B1' : Below w.heap.size w ((w4.setCell ⟨w.heap.size + 1, 4, none⟩ (.int .i64 1)).setCell ⟨w.heap.size + 1, 2, none⟩ (.int .u32 st)) := B0'.setCell (by show w.heap.size ≤ w.heap.size + 1; omega) _
              generalize ((w4.setCell ⟨w.heap.size + 1, 4, none⟩ (.int .i64 1)).setCell ⟨w.heap.size + 1, 2, none⟩ (.int .u32 st)) = wA at *
              clear Er Ea B x0 x1 xf y0 y1 y2 y3 y4 yf
              have Er := Lib.hid er1
              have Ea := Lib.hid ea1
              have B := B1'
              clear er0 ea0 B0' er1 ea1 B1'
              obtain ⟨x0, x1, xf⟩ := cells2 Er.out; obtain ⟨y0, y1, y2, y3, y4, yf⟩ := cells5 Ea.out
              go_region_held3 (fun W => W.cell? ⟨w.heap.size, 0, none⟩ = some (.int .u32 base) ∧ W.cell? ⟨w.heap.size, 1, none⟩ = some (.slice ad n cap) ∧ W.cell? ⟨w.heap.size + 1, 0, none⟩ = some (.int .u32 a.va) ∧ W.cell? ⟨w.heap.size + 1, 1, none⟩ = some (.int .u32 a.satp) ∧ W.cell? ⟨w.heap.size + 1, 2, none⟩ = some (.int .u32 st) ∧ W.cell? ⟨w.heap.size + 1, 3, none⟩ = some (.int .i64 1) ∧ W.cell? ⟨w.heap.size + 1, 4, none⟩ = some (.int .i64 1)) (exact ⟨x0, x1, y0, y1, y2, y3, y4⟩) (first | (go_at_call 11; refine (Kit15.ram_c hb0 hb1 (hW.below (by first | exact B | exact Below.then B (below_drew _))) hn).mono ?_; rintro e w3 ⟨g, r, a', k', rfl, RA, hr⟩; have Er0 := Er; have Ea0 := Ea; have B0 := B; have b6 := RA.below; (try replace b6 := undrew b6); replace Er := Lib.hid ((b6.block _ (Array.getElem?_eq_some_iff.1 Er.out).1).trans Er.out); replace Ea := Lib.hid ((b6.block _ (Array.getElem?_eq_some_iff.1 Ea.out).1).trans Ea.out); replace B := Below.then B b6; clear x0 x1 xf y0 y1 y2 y3 y4 yf; obtain ⟨x0, x1, xf⟩ := cells2 Er.out; obtain ⟨y0, y1, y2, y3, y4, yf⟩ := cells5 Ea.out; clear b6) | (go_at_call 12; refine (h0 _ _ _ _ _ _ RA hr).mono ?_; rintro e w4 ⟨rfl, RB, kp⟩; clear h0; have b7 := RB.below; have er' := (b7.block _ (Array.getElem?_eq_some_iff.1 Er0.out).1).trans Er0.out; have ea' := (b7.block _ (Array.getElem?_eq_some_iff.1 Ea0.out).1).trans Ea0.out; clear Er Ea x0 x1 xf y0 y1 y2 y3 y4 yf; have Er := Lib.hid er'; have Ea := Lib.hid ea'; obtain ⟨x0, x1, xf⟩ := cells2 Er.out; obtain ⟨y0, y1, y2, y3, y4, yf⟩ := cells5 Ea.out; clear er' ea'; clear B; (try replace b7 := undrew b7); have B := Below.then B0 b7; clear b7 B0 Er0 Ea0 RA RB kp hr))
              go_wp2
              go_ret
              exact ⟨rfl, B⟩
        · have ok2 : Wk.Ask.Ok ⟨a.va, a.satp, a.status, 2, 1⟩ := ⟨ha.va0, ha.va1, ha.satp0, ha.satp1, ha.status0, ha.status1, .inr (.inr rfl), .inr (.inl rfl)⟩
          have ok1 : Wk.Ask.Ok ⟨a.va, a.satp, a.status, 1, 1⟩ := ⟨ha.va0, ha.va1, ha.satp0, ha.satp1, ha.status0, ha.status1, .inr (.inl rfl), .inr (.inl rfl)⟩
          have ok0 : Wk.Ask.Ok ⟨a.va, a.satp, st, 1, 0⟩ := ⟨ha.va0, ha.va1, ha.satp0, ha.satp1, st0, st1, .inr (.inl rfl), .inl rfl⟩
          obtain ⟨⟨pa, c2, t2, z2⟩, q2⟩ : ∃ z, Hid (Wk.to base zs ⟨a.va, a.satp, a.status, 2, 1⟩ = z) := ⟨_, rfl⟩
          obtain ⟨⟨pb, c1, t1, z1⟩, q1⟩ : ∃ z, Hid (Wk.to base zs ⟨a.va, a.satp, a.status, 1, 1⟩ = z) := ⟨_, rfl⟩
          obtain ⟨⟨pc, c0, t0, z0⟩, q0⟩ : ∃ z, Hid (Wk.to base zs ⟨a.va, a.satp, st, 1, 0⟩ = z) := ⟨_, rfl⟩
          have u1 : t2 = true → t1 = true ∧ pa = pb := fun h => by
            have := Wk.needs_store (base := base) (zs := zs) (a := ⟨a.va, a.satp, a.status, 2, 1⟩) (b := ⟨a.va, a.satp, a.status, 1, 1⟩) rfl rfl rfl rfl rfl rfl (by rw [q2.out]; exact h)
            rw [q2.out, q1.out] at this; exact this
          have h2 := fun W0 W g r a' k' (RA : RamAt W0 W g r base a' k' zs) (hr : r < W.heap.size) => Walk.walk_to RA hr ⟨a.va, a.satp, a.status, 2, 1⟩ ok2 q2
          have h1 := fun W0 W g r a' k' (RA : RamAt W0 W g r base a' k' zs) (hr : r < W.heap.size) => Walk.walk_to RA hr ⟨a.va, a.satp, a.status, 1, 1⟩ ok1 q1
          have h0 := fun W0 W g r a' k' (RA : RamAt W0 W g r base a' k' zs) (hr : r < W.heap.size) => Walk.walk_to RA hr ⟨a.va, a.satp, st, 1, 0⟩ ok0 q0
          clear q0 q1 q2 ok0 ok1 ok2 hsb hp3 e3 s18
          unfold Walk.askv at h0 h1 h2 ⊢
          simp only [hpv] at hri ⊢
          clear hpv
          cases t2 with
          | true =>
            obtain ⟨rfl, rfl⟩ := u1 rfl
            clear u1
            go_enter Try.func6, Try.ntmps6
            go_wp2_with (first | (go_at_call 9; refine (hal _ _).mono ?_; rintro e w1 ⟨rfl, b5⟩; clear hal; obtain ⟨Er, Ea, B⟩ := alloc2_then b5; clear b5; replace Er := Lib.hid Er; replace Ea := Lib.hid Ea; obtain ⟨x0, x1, xf⟩ := cells2 Er.out; obtain ⟨y0, y1, y2, y3, y4, yf⟩ := cells5 Ea.out) | (go_at_call 10; refine (hri _).mono ?_; rintro e w2 ⟨rfl, b6⟩; clear hri; replace Er := Lib.hid ((b6.block _ (Array.getElem?_eq_some_iff.1 Er.out).1).trans Er.out); replace Ea := Lib.hid ((b6.block _ (Array.getElem?_eq_some_iff.1 Ea.out).1).trans Ea.out); replace B := Below.then B b6; clear x0 x1 xf y0 y1 y2 y3 y4 yf; obtain ⟨x0, x1, xf⟩ := cells2 Er.out; obtain ⟨y0, y1, y2, y3, y4, yf⟩ := cells5 Ea.out; clear b6))
            have er0 := (Below.heap_setCell w2 ⟨w.heap.size + 1, 3, none⟩ (.int .i64 2) w.heap.size (by show ¬ w.heap.size = w.heap.size + 1; omega)).trans Er.out
            have ea0 := heap_set Ea.out 3 (.int .i64 2)
            rw [show (#[.int .u32 a.va, .int .u32 a.satp, .int .u32 a.status, .int .i64 a.access, .int .i64 1] : Array Value).setIfInBounds 3 (.int .i64 2) = #[.int .u32 a.va, .int .u32 a.satp, .int .u32 a.status, .int .i64 2, .int .i64 1] from rfl] at ea0
            have B0' : Below w.heap.size w (w2.setCell ⟨w.heap.size + 1, 3, none⟩ (.int .i64 2)) := B.setCell (by show w.heap.size ≤ w.heap.size + 1; omega) _
            generalize (w2.setCell ⟨w.heap.size + 1, 3, none⟩ (.int .i64 2)) = wA at *
            clear Er Ea B x0 x1 xf y0 y1 y2 y3 y4 yf
            have Er := Lib.hid er0
            have Ea := Lib.hid ea0
            have B := B0'
            clear er0 ea0 B0'
            obtain ⟨x0, x1, xf⟩ := cells2 Er.out; obtain ⟨y0, y1, y2, y3, y4, yf⟩ := cells5 Ea.out
            go_region_held3 (fun W => W.cell? ⟨w.heap.size, 0, none⟩ = some (.int .u32 base) ∧ W.cell? ⟨w.heap.size, 1, none⟩ = some (.slice ad n cap) ∧ W.cell? ⟨w.heap.size + 1, 0, none⟩ = some (.int .u32 a.va) ∧ W.cell? ⟨w.heap.size + 1, 1, none⟩ = some (.int .u32 a.satp) ∧ W.cell? ⟨w.heap.size + 1, 2, none⟩ = some (.int .u32 a.status) ∧ W.cell? ⟨w.heap.size + 1, 3, none⟩ = some (.int .i64 2) ∧ W.cell? ⟨w.heap.size + 1, 4, none⟩ = some (.int .i64 1)) (exact ⟨x0, x1, y0, y1, y2, y3, y4⟩) (first | (go_at_call 11; refine (Kit15.ram_c hb0 hb1 (hW.below (by first | exact B | exact Below.then B (below_drew _))) hn).mono ?_; rintro e w3 ⟨g, r, a', k', rfl, RA, hr⟩; have Er0 := Er; have Ea0 := Ea; have B0 := B; have b6 := RA.below; (try replace b6 := undrew b6); replace Er := Lib.hid ((b6.block _ (Array.getElem?_eq_some_iff.1 Er.out).1).trans Er.out); replace Ea := Lib.hid ((b6.block _ (Array.getElem?_eq_some_iff.1 Ea.out).1).trans Ea.out); replace B := Below.then B b6; clear x0 x1 xf y0 y1 y2 y3 y4 yf; obtain ⟨x0, x1, xf⟩ := cells2 Er.out; obtain ⟨y0, y1, y2, y3, y4, yf⟩ := cells5 Ea.out; clear b6) | (go_at_call 12; refine (h2 _ _ _ _ _ _ RA hr).mono ?_; rintro e w4 ⟨rfl, RB, kp⟩; clear h2; have b7 := RB.below; have er' := (b7.block _ (Array.getElem?_eq_some_iff.1 Er0.out).1).trans Er0.out; have ea' := (b7.block _ (Array.getElem?_eq_some_iff.1 Ea0.out).1).trans Ea0.out; clear Er Ea x0 x1 xf y0 y1 y2 y3 y4 yf; have Er := Lib.hid er'; have Ea := Lib.hid ea'; obtain ⟨x0, x1, xf⟩ := cells2 Er.out; obtain ⟨y0, y1, y2, y3, y4, yf⟩ := cells5 Ea.out; clear er' ea'; clear B; (try replace b7 := undrew b7); have B := Below.then B0 b7; clear b7 B0 Er0 Ea0 RA RB kp hr))
            go_wp2
            have er0 := (Below.heap_setCell w4 ⟨w.heap.size + 1, 3, none⟩ (.int .i64 1) w.heap.size (by show ¬ w.heap.size = w.heap.size + 1; omega)).trans Er.out
            have ea0 := heap_set Ea.out 3 (.int .i64 1)
            rw [show (#[.int .u32 a.va, .int .u32 a.satp, .int .u32 a.status, .int .i64 2, .int .i64 1] : Array Value).setIfInBounds 3 (.int .i64 1) = #[.int .u32 a.va, .int .u32 a.satp, .int .u32 a.status, .int .i64 1, .int .i64 1] from rfl] at ea0
            have B0' : Below w.heap.size w (w4.setCell ⟨w.heap.size + 1, 3, none⟩ (.int .i64 1)) := B.setCell (by show w.heap.size ≤ w.heap.size + 1; omega) _
            generalize (w4.setCell ⟨w.heap.size + 1, 3, none⟩ (.int .i64 1)) = wA at *
            clear Er Ea B x0 x1 xf y0 y1 y2 y3 y4 yf
            have Er := Lib.hid er0
            have Ea := Lib.hid ea0
            have B := B0'
            clear er0 ea0 B0'
            obtain ⟨x0, x1, xf⟩ := cells2 Er.out; obtain ⟨y0, y1, y2, y3, y4, yf⟩ := cells5 Ea.out
            go_region_held3 (fun W => W.cell? ⟨w.heap.size, 0, none⟩ = some (.int .u32 base) ∧ W.cell? ⟨w.heap.size, 1, none⟩ = some (.slice ad n cap) ∧ W.cell? ⟨w.heap.size + 1, 0, none⟩ = some (.int .u32 a.va) ∧ W.cell? ⟨w.heap.size + 1, 1, none⟩ = some (.int .u32 a.satp) ∧ W.cell? ⟨w.heap.size + 1, 2, none⟩ = some (.int .u32 a.status) ∧ W.cell? ⟨w.heap.size + 1, 3, none⟩ = some (.int .i64 1) ∧ W.cell? ⟨w.heap.size + 1, 4, none⟩ = some (.int .i64 1)) (exact ⟨x0, x1, y0, y1, y2, y3, y4⟩) (first | (go_at_call 11; refine (Kit15.ram_c hb0 hb1 (hW.below (by first | exact B | exact Below.then B (below_drew _))) hn).mono ?_; rintro e w3 ⟨g, r, a', k', rfl, RA, hr⟩; have Er0 := Er; have Ea0 := Ea; have B0 := B; have b6 := RA.below; (try replace b6 := undrew b6); replace Er := Lib.hid ((b6.block _ (Array.getElem?_eq_some_iff.1 Er.out).1).trans Er.out); replace Ea := Lib.hid ((b6.block _ (Array.getElem?_eq_some_iff.1 Ea.out).1).trans Ea.out); replace B := Below.then B b6; clear x0 x1 xf y0 y1 y2 y3 y4 yf; obtain ⟨x0, x1, xf⟩ := cells2 Er.out; obtain ⟨y0, y1, y2, y3, y4, yf⟩ := cells5 Ea.out; clear b6) | (go_at_call 12; refine (h1 _ _ _ _ _ _ RA hr).mono ?_; rintro e w4 ⟨rfl, RB, kp⟩; clear h1; have b7 := RB.below; have er' := (b7.block _ (Array.getElem?_eq_some_iff.1 Er0.out).1).trans Er0.out; have ea' := (b7.block _ (Array.getElem?_eq_some_iff.1 Ea0.out).1).trans Ea0.out; clear Er Ea x0 x1 xf y0 y1 y2 y3 y4 yf; have Er := Lib.hid er'; have Ea := Lib.hid ea'; obtain ⟨x0, x1, xf⟩ := cells2 Er.out; obtain ⟨y0, y1, y2, y3, y4, yf⟩ := cells5 Ea.out; clear er' ea'; clear B; (try replace b7 := undrew b7); have B := Below.then B0 b7; clear b7 B0 Er0 Ea0 RA RB kp hr))
            go_wp2
            rw [show bits .andNot .u32 a.status 262144 = st from hst.out]
            have er0 := (Below.heap_setCell w4 ⟨w.heap.size + 1, 4, none⟩ (.int .i64 0) w.heap.size (by show ¬ w.heap.size = w.heap.size + 1; omega)).trans Er.out
            have ea0 := heap_set Ea.out 4 (.int .i64 0)
            rw [show (#[.int .u32 a.va, .int .u32 a.satp, .int .u32 a.status, .int .i64 1, .int .i64 1] : Array Value).setIfInBounds 4 (.int .i64 0) = #[.int .u32 a.va, .int .u32 a.satp, .int .u32 a.status, .int .i64 1, .int .i64 0] from rfl] at ea0
            have B0' : Below w.heap.size w (w4.setCell ⟨w.heap.size + 1, 4, none⟩ (.int .i64 0)) := B.setCell (by show w.heap.size ≤ w.heap.size + 1; omega) _
            have er1 := (Below.heap_setCell (w4.setCell ⟨w.heap.size + 1, 4, none⟩ (.int .i64 0)) ⟨w.heap.size + 1, 2, none⟩ (.int .u32 st) w.heap.size (by show ¬ w.heap.size = w.heap.size + 1; omega)).trans er0
            have ea1 := heap_set ea0 2 (.int .u32 st)
            rw [show (#[.int .u32 a.va, .int .u32 a.satp, .int .u32 a.status, .int .i64 1, .int .i64 0] : Array Value).setIfInBounds 2 (.int .u32 st) = #[.int .u32 a.va, .int .u32 a.satp, .int .u32 st, .int .i64 1, .int .i64 0] from rfl] at ea1
            have B1' : Below w.heap.size w ((w4.setCell ⟨w.heap.size + 1, 4, none⟩ (.int .i64 0)).setCell ⟨w.heap.size + 1, 2, none⟩ (.int .u32 st)) := B0'.setCell (by show w.heap.size ≤ w.heap.size + 1; omega) _
            generalize ((w4.setCell ⟨w.heap.size + 1, 4, none⟩ (.int .i64 0)).setCell ⟨w.heap.size + 1, 2, none⟩ (.int .u32 st)) = wA at *
            clear Er Ea B x0 x1 xf y0 y1 y2 y3 y4 yf
            have Er := Lib.hid er1
            have Ea := Lib.hid ea1
            have B := B1'
            clear er0 ea0 B0' er1 ea1 B1'
            obtain ⟨x0, x1, xf⟩ := cells2 Er.out; obtain ⟨y0, y1, y2, y3, y4, yf⟩ := cells5 Ea.out
            go_region_held3 (fun W => W.cell? ⟨w.heap.size, 0, none⟩ = some (.int .u32 base) ∧ W.cell? ⟨w.heap.size, 1, none⟩ = some (.slice ad n cap) ∧ W.cell? ⟨w.heap.size + 1, 0, none⟩ = some (.int .u32 a.va) ∧ W.cell? ⟨w.heap.size + 1, 1, none⟩ = some (.int .u32 a.satp) ∧ W.cell? ⟨w.heap.size + 1, 2, none⟩ = some (.int .u32 st) ∧ W.cell? ⟨w.heap.size + 1, 3, none⟩ = some (.int .i64 1) ∧ W.cell? ⟨w.heap.size + 1, 4, none⟩ = some (.int .i64 0)) (exact ⟨x0, x1, y0, y1, y2, y3, y4⟩) (first | (go_at_call 11; refine (Kit15.ram_c hb0 hb1 (hW.below (by first | exact B | exact Below.then B (below_drew _))) hn).mono ?_; rintro e w3 ⟨g, r, a', k', rfl, RA, hr⟩; have Er0 := Er; have Ea0 := Ea; have B0 := B; have b6 := RA.below; (try replace b6 := undrew b6); replace Er := Lib.hid ((b6.block _ (Array.getElem?_eq_some_iff.1 Er.out).1).trans Er.out); replace Ea := Lib.hid ((b6.block _ (Array.getElem?_eq_some_iff.1 Ea.out).1).trans Ea.out); replace B := Below.then B b6; clear x0 x1 xf y0 y1 y2 y3 y4 yf; obtain ⟨x0, x1, xf⟩ := cells2 Er.out; obtain ⟨y0, y1, y2, y3, y4, yf⟩ := cells5 Ea.out; clear b6) | (go_at_call 12; refine (h0 _ _ _ _ _ _ RA hr).mono ?_; rintro e w4 ⟨rfl, RB, kp⟩; clear h0; have b7 := RB.below; have er' := (b7.block _ (Array.getElem?_eq_some_iff.1 Er0.out).1).trans Er0.out; have ea' := (b7.block _ (Array.getElem?_eq_some_iff.1 Ea0.out).1).trans Ea0.out; clear Er Ea x0 x1 xf y0 y1 y2 y3 y4 yf; have Er := Lib.hid er'; have Ea := Lib.hid ea'; obtain ⟨x0, x1, xf⟩ := cells2 Er.out; obtain ⟨y0, y1, y2, y3, y4, yf⟩ := cells5 Ea.out; clear er' ea'; clear B; (try replace b7 := undrew b7); have B := Below.then B0 b7; clear b7 B0 Er0 Ea0 RA RB kp hr))
            go_wp2
            go_ret
            exact ⟨rfl, B⟩
          | false =>
            clear u1
            cases t1 with
            | true =>
              go_enter Try.func6, Try.ntmps6
              go_wp2_with (first | (go_at_call 9; refine (hal _ _).mono ?_; rintro e w1 ⟨rfl, b5⟩; clear hal; obtain ⟨Er, Ea, B⟩ := alloc2_then b5; clear b5; replace Er := Lib.hid Er; replace Ea := Lib.hid Ea; obtain ⟨x0, x1, xf⟩ := cells2 Er.out; obtain ⟨y0, y1, y2, y3, y4, yf⟩ := cells5 Ea.out) | (go_at_call 10; refine (hri _).mono ?_; rintro e w2 ⟨rfl, b6⟩; clear hri; replace Er := Lib.hid ((b6.block _ (Array.getElem?_eq_some_iff.1 Er.out).1).trans Er.out); replace Ea := Lib.hid ((b6.block _ (Array.getElem?_eq_some_iff.1 Ea.out).1).trans Ea.out); replace B := Below.then B b6; clear x0 x1 xf y0 y1 y2 y3 y4 yf; obtain ⟨x0, x1, xf⟩ := cells2 Er.out; obtain ⟨y0, y1, y2, y3, y4, yf⟩ := cells5 Ea.out; clear b6))
              have er0 := (Below.heap_setCell w2 ⟨w.heap.size + 1, 3, none⟩ (.int .i64 2) w.heap.size (by show ¬ w.heap.size = w.heap.size + 1; omega)).trans Er.out
              have ea0 := heap_set Ea.out 3 (.int .i64 2)
              rw [show (#[.int .u32 a.va, .int .u32 a.satp, .int .u32 a.status, .int .i64 a.access, .int .i64 1] : Array Value).setIfInBounds 3 (.int .i64 2) = #[.int .u32 a.va, .int .u32 a.satp, .int .u32 a.status, .int .i64 2, .int .i64 1] from rfl] at ea0
              have B0' : Below w.heap.size w (w2.setCell ⟨w.heap.size + 1, 3, none⟩ (.int .i64 2)) := B.setCell (by show w.heap.size ≤ w.heap.size + 1; omega) _
              generalize (w2.setCell ⟨w.heap.size + 1, 3, none⟩ (.int .i64 2)) = wA at *
              clear Er Ea B x0 x1 xf y0 y1 y2 y3 y4 yf
              have Er := Lib.hid er0
              have Ea := Lib.hid ea0
              have B := B0'
              clear er0 ea0 B0'
              obtain ⟨x0, x1, xf⟩ := cells2 Er.out; obtain ⟨y0, y1, y2, y3, y4, yf⟩ := cells5 Ea.out
              go_region_held3 (fun W => W.cell? ⟨w.heap.size, 0, none⟩ = some (.int .u32 base) ∧ W.cell? ⟨w.heap.size, 1, none⟩ = some (.slice ad n cap) ∧ W.cell? ⟨w.heap.size + 1, 0, none⟩ = some (.int .u32 a.va) ∧ W.cell? ⟨w.heap.size + 1, 1, none⟩ = some (.int .u32 a.satp) ∧ W.cell? ⟨w.heap.size + 1, 2, none⟩ = some (.int .u32 a.status) ∧ W.cell? ⟨w.heap.size + 1, 3, none⟩ = some (.int .i64 2) ∧ W.cell? ⟨w.heap.size + 1, 4, none⟩ = some (.int .i64 1)) (exact ⟨x0, x1, y0, y1, y2, y3, y4⟩) (first | (go_at_call 11; refine (Kit15.ram_c hb0 hb1 (hW.below (by first | exact B | exact Below.then B (below_drew _))) hn).mono ?_; rintro e w3 ⟨g, r, a', k', rfl, RA, hr⟩; have Er0 := Er; have Ea0 := Ea; have B0 := B; have b6 := RA.below; (try replace b6 := undrew b6); replace Er := Lib.hid ((b6.block _ (Array.getElem?_eq_some_iff.1 Er.out).1).trans Er.out); replace Ea := Lib.hid ((b6.block _ (Array.getElem?_eq_some_iff.1 Ea.out).1).trans Ea.out); replace B := Below.then B b6; clear x0 x1 xf y0 y1 y2 y3 y4 yf; obtain ⟨x0, x1, xf⟩ := cells2 Er.out; obtain ⟨y0, y1, y2, y3, y4, yf⟩ := cells5 Ea.out; clear b6) | (go_at_call 12; refine (h2 _ _ _ _ _ _ RA hr).mono ?_; rintro e w4 ⟨rfl, RB, kp⟩; clear h2; have b7 := RB.below; have er' := (b7.block _ (Array.getElem?_eq_some_iff.1 Er0.out).1).trans Er0.out; have ea' := (b7.block _ (Array.getElem?_eq_some_iff.1 Ea0.out).1).trans Ea0.out; clear Er Ea x0 x1 xf y0 y1 y2 y3 y4 yf; have Er := Lib.hid er'; have Ea := Lib.hid ea'; obtain ⟨x0, x1, xf⟩ := cells2 Er.out; obtain ⟨y0, y1, y2, y3, y4, yf⟩ := cells5 Ea.out; clear er' ea'; clear B; (try replace b7 := undrew b7); have B := Below.then B0 b7; clear b7 B0 Er0 Ea0 RA RB kp hr))
              go_wp2
              have er0 := (Below.heap_setCell w4 ⟨w.heap.size + 1, 3, none⟩ (.int .i64 1) w.heap.size (by show ¬ w.heap.size = w.heap.size + 1; omega)).trans Er.out
              have ea0 := heap_set Ea.out 3 (.int .i64 1)
              rw [show (#[.int .u32 a.va, .int .u32 a.satp, .int .u32 a.status, .int .i64 2, .int .i64 1] : Array Value).setIfInBounds 3 (.int .i64 1) = #[.int .u32 a.va, .int .u32 a.satp, .int .u32 a.status, .int .i64 1, .int .i64 1] from rfl] at ea0
              have B0' : Below w.heap.size w (w4.setCell ⟨w.heap.size + 1, 3, none⟩ (.int .i64 1)) := B.setCell (by show w.heap.size ≤ w.heap.size + 1; omega) _
              generalize (w4.setCell ⟨w.heap.size + 1, 3, none⟩ (.int .i64 1)) = wA at *
              clear Er Ea B x0 x1 xf y0 y1 y2 y3 y4 yf
              have Er := Lib.hid er0
              have Ea := Lib.hid ea0
              have B := B0'
              clear er0 ea0 B0'
              obtain ⟨x0, x1, xf⟩ := cells2 Er.out; obtain ⟨y0, y1, y2, y3, y4, yf⟩ := cells5 Ea.out
              go_region_held3 (fun W => W.cell? ⟨w.heap.size, 0, none⟩ = some (.int .u32 base) ∧ W.cell? ⟨w.heap.size, 1, none⟩ = some (.slice ad n cap) ∧ W.cell? ⟨w.heap.size + 1, 0, none⟩ = some (.int .u32 a.va) ∧ W.cell? ⟨w.heap.size + 1, 1, none⟩ = some (.int .u32 a.satp) ∧ W.cell? ⟨w.heap.size + 1, 2, none⟩ = some (.int .u32 a.status) ∧ W.cell? ⟨w.heap.size + 1, 3, none⟩ = some (.int .i64 1) ∧ W.cell? ⟨w.heap.size + 1, 4, none⟩ = some (.int .i64 1)) (exact ⟨x0, x1, y0, y1, y2, y3, y4⟩) (first | (go_at_call 11; refine (Kit15.ram_c hb0 hb1 (hW.below (by first | exact B | exact Below.then B (below_drew _))) hn).mono ?_; rintro e w3 ⟨g, r, a', k', rfl, RA, hr⟩; have Er0 := Er; have Ea0 := Ea; have B0 := B; have b6 := RA.below; (try replace b6 := undrew b6); replace Er := Lib.hid ((b6.block _ (Array.getElem?_eq_some_iff.1 Er.out).1).trans Er.out); replace Ea := Lib.hid ((b6.block _ (Array.getElem?_eq_some_iff.1 Ea.out).1).trans Ea.out); replace B := Below.then B b6; clear x0 x1 xf y0 y1 y2 y3 y4 yf; obtain ⟨x0, x1, xf⟩ := cells2 Er.out; obtain ⟨y0, y1, y2, y3, y4, yf⟩ := cells5 Ea.out; clear b6) | (go_at_call 12; refine (h1 _ _ _ _ _ _ RA hr).mono ?_; rintro e w4 ⟨rfl, RB, kp⟩; clear h1; have b7 := RB.below; have er' := (b7.block _ (Array.getElem?_eq_some_iff.1 Er0.out).1).trans Er0.out; have ea' := (b7.block _ (Array.getElem?_eq_some_iff.1 Ea0.out).1).trans Ea0.out; clear Er Ea x0 x1 xf y0 y1 y2 y3 y4 yf; have Er := Lib.hid er'; have Ea := Lib.hid ea'; obtain ⟨x0, x1, xf⟩ := cells2 Er.out; obtain ⟨y0, y1, y2, y3, y4, yf⟩ := cells5 Ea.out; clear er' ea'; clear B; (try replace b7 := undrew b7); have B := Below.then B0 b7; clear b7 B0 Er0 Ea0 RA RB kp hr))
              go_wp2
              rw [show bits .andNot .u32 a.status 262144 = st from hst.out]
              have er0 := (Below.heap_setCell w4 ⟨w.heap.size + 1, 4, none⟩ (.int .i64 0) w.heap.size (by show ¬ w.heap.size = w.heap.size + 1; omega)).trans Er.out
              have ea0 := heap_set Ea.out 4 (.int .i64 0)
              rw [show (#[.int .u32 a.va, .int .u32 a.satp, .int .u32 a.status, .int .i64 1, .int .i64 1] : Array Value).setIfInBounds 4 (.int .i64 0) = #[.int .u32 a.va, .int .u32 a.satp, .int .u32 a.status, .int .i64 1, .int .i64 0] from rfl] at ea0
              have B0' : Below w.heap.size w (w4.setCell ⟨w.heap.size + 1, 4, none⟩ (.int .i64 0)) := B.setCell (by show w.heap.size ≤ w.heap.size + 1; omega) _
              have er1 := (Below.heap_setCell (w4.setCell ⟨w.heap.size + 1, 4, none⟩ (.int .i64 0)) ⟨w.heap.size + 1, 2, none⟩ (.int .u32 st) w.heap.size (by show ¬ w.heap.size = w.heap.size + 1; omega)).trans er0
              have ea1 := heap_set ea0 2 (.int .u32 st)
              rw [show (#[.int .u32 a.va, .int .u32 a.satp, .int .u32 a.status, .int .i64 1, .int .i64 0] : Array Value).setIfInBounds 2 (.int .u32 st) = #[.int .u32 a.va, .int .u32 a.satp, .int .u32 st, .int .i64 1, .int .i64 0] from rfl] at ea1
              have B1' : Below w.heap.size w ((w4.setCell ⟨w.heap.size + 1, 4, none⟩ (.int .i64 0)).setCell ⟨w.heap.size + 1, 2, none⟩ (.int .u32 st)) := B0'.setCell (by show w.heap.size ≤ w.heap.size + 1; omega) _
              generalize ((w4.setCell ⟨w.heap.size + 1, 4, none⟩ (.int .i64 0)).setCell ⟨w.heap.size + 1, 2, none⟩ (.int .u32 st)) = wA at *
              clear Er Ea B x0 x1 xf y0 y1 y2 y3 y4 yf
              have Er := Lib.hid er1
              have Ea := Lib.hid ea1
              have B := B1'
              clear er0 ea0 B0' er1 ea1 B1'
              obtain ⟨x0, x1, xf⟩ := cells2 Er.out; obtain ⟨y0, y1, y2, y3, y4, yf⟩ := cells5 Ea.out
              go_region_held3 (fun W => W.cell? ⟨w.heap.size, 0, none⟩ = some (.int .u32 base) ∧ W.cell? ⟨w.heap.size, 1, none⟩ = some (.slice ad n cap) ∧ W.cell? ⟨w.heap.size + 1, 0, none⟩ = some (.int .u32 a.va) ∧ W.cell? ⟨w.heap.size + 1, 1, none⟩ = some (.int .u32 a.satp) ∧ W.cell? ⟨w.heap.size + 1, 2, none⟩ = some (.int .u32 st) ∧ W.cell? ⟨w.heap.size + 1, 3, none⟩ = some (.int .i64 1) ∧ W.cell? ⟨w.heap.size + 1, 4, none⟩ = some (.int .i64 0)) (exact ⟨x0, x1, y0, y1, y2, y3, y4⟩) (first | (go_at_call 11; refine (Kit15.ram_c hb0 hb1 (hW.below (by first | exact B | exact Below.then B (below_drew _))) hn).mono ?_; rintro e w3 ⟨g, r, a', k', rfl, RA, hr⟩; have Er0 := Er; have Ea0 := Ea; have B0 := B; have b6 := RA.below; (try replace b6 := undrew b6); replace Er := Lib.hid ((b6.block _ (Array.getElem?_eq_some_iff.1 Er.out).1).trans Er.out); replace Ea := Lib.hid ((b6.block _ (Array.getElem?_eq_some_iff.1 Ea.out).1).trans Ea.out); replace B := Below.then B b6; clear x0 x1 xf y0 y1 y2 y3 y4 yf; obtain ⟨x0, x1, xf⟩ := cells2 Er.out; obtain ⟨y0, y1, y2, y3, y4, yf⟩ := cells5 Ea.out; clear b6) | (go_at_call 12; refine (h0 _ _ _ _ _ _ RA hr).mono ?_; rintro e w4 ⟨rfl, RB, kp⟩; clear h0; have b7 := RB.below; have er' := (b7.block _ (Array.getElem?_eq_some_iff.1 Er0.out).1).trans Er0.out; have ea' := (b7.block _ (Array.getElem?_eq_some_iff.1 Ea0.out).1).trans Ea0.out; clear Er Ea x0 x1 xf y0 y1 y2 y3 y4 yf; have Er := Lib.hid er'; have Ea := Lib.hid ea'; obtain ⟨x0, x1, xf⟩ := cells2 Er.out; obtain ⟨y0, y1, y2, y3, y4, yf⟩ := cells5 Ea.out; clear er' ea'; clear B; (try replace b7 := undrew b7); have B := Below.then B0 b7; clear b7 B0 Er0 Ea0 RA RB kp hr))
              go_wp2
              go_ret
              exact ⟨rfl, B⟩
            | false =>
              go_enter Try.func6, Try.ntmps6
              go_wp2_with (first | (go_at_call 9; refine (hal _ _).mono ?_; rintro e w1 ⟨rfl, b5⟩; clear hal; obtain ⟨Er, Ea, B⟩ := alloc2_then b5; clear b5; replace Er := Lib.hid Er; replace Ea := Lib.hid Ea; obtain ⟨x0, x1, xf⟩ := cells2 Er.out; obtain ⟨y0, y1, y2, y3, y4, yf⟩ := cells5 Ea.out) | (go_at_call 10; refine (hri _).mono ?_; rintro e w2 ⟨rfl, b6⟩; clear hri; replace Er := Lib.hid ((b6.block _ (Array.getElem?_eq_some_iff.1 Er.out).1).trans Er.out); replace Ea := Lib.hid ((b6.block _ (Array.getElem?_eq_some_iff.1 Ea.out).1).trans Ea.out); replace B := Below.then B b6; clear x0 x1 xf y0 y1 y2 y3 y4 yf; obtain ⟨x0, x1, xf⟩ := cells2 Er.out; obtain ⟨y0, y1, y2, y3, y4, yf⟩ := cells5 Ea.out; clear b6))
              have er0 := (Below.heap_setCell w2 ⟨w.heap.size + 1, 3, none⟩ (.int .i64 2) w.heap.size (by show ¬ w.heap.size = w.heap.size + 1; omega)).trans Er.out
              have ea0 := heap_set Ea.out 3 (.int .i64 2)
              rw [show (#[.int .u32 a.va, .int .u32 a.satp, .int .u32 a.status, .int .i64 a.access, .int .i64 1] : Array Value).setIfInBounds 3 (.int .i64 2) = #[.int .u32 a.va, .int .u32 a.satp, .int .u32 a.status, .int .i64 2, .int .i64 1] from rfl] at ea0
              have B0' : Below w.heap.size w (w2.setCell ⟨w.heap.size + 1, 3, none⟩ (.int .i64 2)) := B.setCell (by show w.heap.size ≤ w.heap.size + 1; omega) _
              generalize (w2.setCell ⟨w.heap.size + 1, 3, none⟩ (.int .i64 2)) = wA at *
              clear Er Ea B x0 x1 xf y0 y1 y2 y3 y4 yf
              have Er := Lib.hid er0
              have Ea := Lib.hid ea0
              have B := B0'
              clear er0 ea0 B0'
              obtain ⟨x0, x1, xf⟩ := cells2 Er.out; obtain ⟨y0, y1, y2, y3, y4, yf⟩ := cells5 Ea.out
              go_region_held3 (fun W => W.cell? ⟨w.heap.size, 0, none⟩ = some (.int .u32 base) ∧ W.cell? ⟨w.heap.size, 1, none⟩ = some (.slice ad n cap) ∧ W.cell? ⟨w.heap.size + 1, 0, none⟩ = some (.int .u32 a.va) ∧ W.cell? ⟨w.heap.size + 1, 1, none⟩ = some (.int .u32 a.satp) ∧ W.cell? ⟨w.heap.size + 1, 2, none⟩ = some (.int .u32 a.status) ∧ W.cell? ⟨w.heap.size + 1, 3, none⟩ = some (.int .i64 2) ∧ W.cell? ⟨w.heap.size + 1, 4, none⟩ = some (.int .i64 1)) (exact ⟨x0, x1, y0, y1, y2, y3, y4⟩) (first | (go_at_call 11; refine (Kit15.ram_c hb0 hb1 (hW.below (by first | exact B | exact Below.then B (below_drew _))) hn).mono ?_; rintro e w3 ⟨g, r, a', k', rfl, RA, hr⟩; have Er0 := Er; have Ea0 := Ea; have B0 := B; have b6 := RA.below; (try replace b6 := undrew b6); replace Er := Lib.hid ((b6.block _ (Array.getElem?_eq_some_iff.1 Er.out).1).trans Er.out); replace Ea := Lib.hid ((b6.block _ (Array.getElem?_eq_some_iff.1 Ea.out).1).trans Ea.out); replace B := Below.then B b6; clear x0 x1 xf y0 y1 y2 y3 y4 yf; obtain ⟨x0, x1, xf⟩ := cells2 Er.out; obtain ⟨y0, y1, y2, y3, y4, yf⟩ := cells5 Ea.out; clear b6) | (go_at_call 12; refine (h2 _ _ _ _ _ _ RA hr).mono ?_; rintro e w4 ⟨rfl, RB, kp⟩; clear h2; have b7 := RB.below; have er' := (b7.block _ (Array.getElem?_eq_some_iff.1 Er0.out).1).trans Er0.out; have ea' := (b7.block _ (Array.getElem?_eq_some_iff.1 Ea0.out).1).trans Ea0.out; clear Er Ea x0 x1 xf y0 y1 y2 y3 y4 yf; have Er := Lib.hid er'; have Ea := Lib.hid ea'; obtain ⟨x0, x1, xf⟩ := cells2 Er.out; obtain ⟨y0, y1, y2, y3, y4, yf⟩ := cells5 Ea.out; clear er' ea'; clear B; (try replace b7 := undrew b7); have B := Below.then B0 b7; clear b7 B0 Er0 Ea0 RA RB kp hr))
              go_wp2
              have er0 := (Below.heap_setCell w4 ⟨w.heap.size + 1, 3, none⟩ (.int .i64 1) w.heap.size (by show ¬ w.heap.size = w.heap.size + 1; omega)).trans Er.out
              have ea0 := heap_set Ea.out 3 (.int .i64 1)
              rw [show (#[.int .u32 a.va, .int .u32 a.satp, .int .u32 a.status, .int .i64 2, .int .i64 1] : Array Value).setIfInBounds 3 (.int .i64 1) = #[.int .u32 a.va, .int .u32 a.satp, .int .u32 a.status, .int .i64 1, .int .i64 1] from rfl] at ea0
              have B0' : Below w.heap.size w (w4.setCell ⟨w.heap.size + 1, 3, none⟩ (.int .i64 1)) := B.setCell (by show w.heap.size ≤ w.heap.size + 1; omega) _
              generalize (w4.setCell ⟨w.heap.size + 1, 3, none⟩ (.int .i64 1)) = wA at *
              clear Er Ea B x0 x1 xf y0 y1 y2 y3 y4 yf
              have Er := Lib.hid er0
              have Ea := Lib.hid ea0
              have B := B0'
              clear er0 ea0 B0'
              obtain ⟨x0, x1, xf⟩ := cells2 Er.out; obtain ⟨y0, y1, y2, y3, y4, yf⟩ := cells5 Ea.out
              go_region_held3 (fun W => W.cell? ⟨w.heap.size, 0, none⟩ = some (.int .u32 base) ∧ W.cell? ⟨w.heap.size, 1, none⟩ = some (.slice ad n cap) ∧ W.cell? ⟨w.heap.size + 1, 0, none⟩ = some (.int .u32 a.va) ∧ W.cell? ⟨w.heap.size + 1, 1, none⟩ = some (.int .u32 a.satp) ∧ W.cell? ⟨w.heap.size + 1, 2, none⟩ = some (.int .u32 a.status) ∧ W.cell? ⟨w.heap.size + 1, 3, none⟩ = some (.int .i64 1) ∧ W.cell? ⟨w.heap.size + 1, 4, none⟩ = some (.int .i64 1)) (exact ⟨x0, x1, y0, y1, y2, y3, y4⟩) (first | (go_at_call 11; refine (Kit15.ram_c hb0 hb1 (hW.below (by first | exact B | exact Below.then B (below_drew _))) hn).mono ?_; rintro e w3 ⟨g, r, a', k', rfl, RA, hr⟩; have Er0 := Er; have Ea0 := Ea; have B0 := B; have b6 := RA.below; (try replace b6 := undrew b6); replace Er := Lib.hid ((b6.block _ (Array.getElem?_eq_some_iff.1 Er.out).1).trans Er.out); replace Ea := Lib.hid ((b6.block _ (Array.getElem?_eq_some_iff.1 Ea.out).1).trans Ea.out); replace B := Below.then B b6; clear x0 x1 xf y0 y1 y2 y3 y4 yf; obtain ⟨x0, x1, xf⟩ := cells2 Er.out; obtain ⟨y0, y1, y2, y3, y4, yf⟩ := cells5 Ea.out; clear b6) | (go_at_call 12; refine (h1 _ _ _ _ _ _ RA hr).mono ?_; rintro e w4 ⟨rfl, RB, kp⟩; clear h1; have b7 := RB.below; have er' := (b7.block _ (Array.getElem?_eq_some_iff.1 Er0.out).1).trans Er0.out; have ea' := (b7.block _ (Array.getElem?_eq_some_iff.1 Ea0.out).1).trans Ea0.out; clear Er Ea x0 x1 xf y0 y1 y2 y3 y4 yf; have Er := Lib.hid er'; have Ea := Lib.hid ea'; obtain ⟨x0, x1, xf⟩ := cells2 Er.out; obtain ⟨y0, y1, y2, y3, y4, yf⟩ := cells5 Ea.out; clear er' ea'; clear B; (try replace b7 := undrew b7); have B := Below.then B0 b7; clear b7 B0 Er0 Ea0 RA RB kp hr))
              go_wp2
              rw [show bits .andNot .u32 a.status 262144 = st from hst.out]
              have er0 := (Below.heap_setCell w4 ⟨w.heap.size + 1, 4, none⟩ (.int .i64 0) w.heap.size (by show ¬ w.heap.size = w.heap.size + 1; omega)).trans Er.out
              have ea0 := heap_set Ea.out 4 (.int .i64 0)
              rw [show (#[.int .u32 a.va, .int .u32 a.satp, .int .u32 a.status, .int .i64 1, .int .i64 1] : Array Value).setIfInBounds 4 (.int .i64 0) = #[.int .u32 a.va, .int .u32 a.satp, .int .u32 a.status, .int .i64 1, .int .i64 0] from rfl] at ea0
              have B0' : Below w.heap.size w (w4.setCell ⟨w.heap.size + 1, 4, none⟩ (.int .i64 0)) := B.setCell (by show w.heap.size ≤ w.heap.size + 1; omega) _
              have er1 := (Below.heap_setCell (w4.setCell ⟨w.heap.size + 1, 4, none⟩ (.int .i64 0)) ⟨w.heap.size + 1, 2, none⟩ (.int .u32 st) w.heap.size (by show ¬ w.heap.size = w.heap.size + 1; omega)).trans er0
              have ea1 := heap_set ea0 2 (.int .u32 st)
              rw [show (#[.int .u32 a.va, .int .u32 a.satp, .int .u32 a.status, .int .i64 1, .int .i64 0] : Array Value).setIfInBounds 2 (.int .u32 st) = #[.int .u32 a.va, .int .u32 a.satp, .int .u32 st, .int .i64 1, .int .i64 0] from rfl] at ea1
              have B1' : Below w.heap.size w ((w4.setCell ⟨w.heap.size + 1, 4, none⟩ (.int .i64 0)).setCell ⟨w.heap.size + 1, 2, none⟩ (.int .u32 st)) := B0'.setCell (by show w.heap.size ≤ w.heap.size + 1; omega) _
              generalize ((w4.setCell ⟨w.heap.size + 1, 4, none⟩ (.int .i64 0)).setCell ⟨w.heap.size + 1, 2, none⟩ (.int .u32 st)) = wA at *
              clear Er Ea B x0 x1 xf y0 y1 y2 y3 y4 yf
              have Er := Lib.hid er1
              have Ea := Lib.hid ea1
              have B := B1'
              clear er0 ea0 B0' er1 ea1 B1'
              obtain ⟨x0, x1, xf⟩ := cells2 Er.out; obtain ⟨y0, y1, y2, y3, y4, yf⟩ := cells5 Ea.out
              go_region_held3 (fun W => W.cell? ⟨w.heap.size, 0, none⟩ = some (.int .u32 base) ∧ W.cell? ⟨w.heap.size, 1, none⟩ = some (.slice ad n cap) ∧ W.cell? ⟨w.heap.size + 1, 0, none⟩ = some (.int .u32 a.va) ∧ W.cell? ⟨w.heap.size + 1, 1, none⟩ = some (.int .u32 a.satp) ∧ W.cell? ⟨w.heap.size + 1, 2, none⟩ = some (.int .u32 st) ∧ W.cell? ⟨w.heap.size + 1, 3, none⟩ = some (.int .i64 1) ∧ W.cell? ⟨w.heap.size + 1, 4, none⟩ = some (.int .i64 0)) (exact ⟨x0, x1, y0, y1, y2, y3, y4⟩) (first | (go_at_call 11; refine (Kit15.ram_c hb0 hb1 (hW.below (by first | exact B | exact Below.then B (below_drew _))) hn).mono ?_; rintro e w3 ⟨g, r, a', k', rfl, RA, hr⟩; have Er0 := Er; have Ea0 := Ea; have B0 := B; have b6 := RA.below; (try replace b6 := undrew b6); replace Er := Lib.hid ((b6.block _ (Array.getElem?_eq_some_iff.1 Er.out).1).trans Er.out); replace Ea := Lib.hid ((b6.block _ (Array.getElem?_eq_some_iff.1 Ea.out).1).trans Ea.out); replace B := Below.then B b6; clear x0 x1 xf y0 y1 y2 y3 y4 yf; obtain ⟨x0, x1, xf⟩ := cells2 Er.out; obtain ⟨y0, y1, y2, y3, y4, yf⟩ := cells5 Ea.out; clear b6) | (go_at_call 12; refine (h0 _ _ _ _ _ _ RA hr).mono ?_; rintro e w4 ⟨rfl, RB, kp⟩; clear h0; have b7 := RB.below; have er' := (b7.block _ (Array.getElem?_eq_some_iff.1 Er0.out).1).trans Er0.out; have ea' := (b7.block _ (Array.getElem?_eq_some_iff.1 Ea0.out).1).trans Ea0.out; clear Er Ea x0 x1 xf y0 y1 y2 y3 y4 yf; have Er := Lib.hid er'; have Ea := Lib.hid ea'; obtain ⟨x0, x1, xf⟩ := cells2 Er.out; obtain ⟨y0, y1, y2, y3, y4, yf⟩ := cells5 Ea.out; clear er' ea'; clear B; (try replace b7 := undrew b7); have B := Below.then B0 b7; clear b7 B0 Er0 Ea0 RA RB kp hr))
              go_wp2
              go_ret
              exact ⟨rfl, B⟩
end L15Needs
end Go.Proofs.Ytejgaldeamjplaa
