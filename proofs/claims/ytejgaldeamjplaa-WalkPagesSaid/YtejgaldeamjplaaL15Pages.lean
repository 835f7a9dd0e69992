/- WalkPages: addresses of one page go where it goes, each at its place. No condition. -/
import Derived.Test.YtejgaldeamjplaaKit15
import Derived.Test.YtejgaldeamjplaaWkL
import Derived.Deep.RegionHeld3
namespace Go.Proofs.Ytejgaldeamjplaa
open Go.RowKit
set_option linter.unusedVariables false
namespace L15Pages
set_option maxHeartbeats 2000000 in
set_option maxRecDepth 100000 in
theorem WalkPages_c (cs0 : Array Value) (cs1 : Array Value) (a2 : Int) (w : World) (s0 : Sh.ok w (.agg 2 [(0, 1, .int .u32), (1, 1, .slice 1 (.int .u32))]) cs0.toList) (s1 : Sh.ok w (.agg 5 [(0, 1, .int .u32), (1, 1, .int .u32), (2, 1, .int .u32), (3, 1, .int .i64), (4, 1, .int .i64)]) cs1.toList) (w2 : (Lit.int .u16 a2).wf = true) :
    Calls Try.prog 7 #[.agg cs0, .agg cs1, .int .u16 a2] w fun e w' => e = .returned (.bool true) ∧ Below w.heap.size w w' := by
  have hlow : 0 ≤ a2 ∧ a2 ≤ 65535 := by simpa [Lit.wf, IntKind.min, IntKind.max, IntKind.signed, IntKind.bits] using w2
  clear w2
  obtain ⟨base, ad, n, cap, zs, hcs, hb0, hb1, hW⟩ := ram_of s0
  obtain ⟨a, hca, v1, v2, v3, v4, v5⟩ := ask_of s1
  clear s0 s1
  rw [hcs, hca]
  clear hcs hca
  have hal := fun o1 o2 => Live15.alive_c ((w.alloc o1).alloc o2)
  have hri := fun W => Kit15.right_c W base ad n cap a
  cases hrB : Kit15.rightB n a with
  | false =>
    rw [hrB] at hri
    go_enter Try.func7, Try.ntmps7
    go_wp2_with (first | (go_at_call 9; refine (hal _ _).mono ?_; rintro e w1 ⟨rfl, b5⟩; clear hal; obtain ⟨Er, Ea, B⟩ := alloc2_then b5; clear b5; replace Er := Lib.hid Er; replace Ea := Lib.hid Ea; obtain ⟨x0, x1, xf⟩ := cells2 Er.out; obtain ⟨y0, y1, y2, y3, y4, yf⟩ := cells5 Ea.out) | (go_at_call 10; refine (hri _).mono ?_; rintro e w2 ⟨rfl, b6⟩; clear hri; replace Er := Lib.hid ((b6.block _ (Array.getElem?_eq_some_iff.1 Er.out).1).trans Er.out); replace Ea := Lib.hid ((b6.block _ (Array.getElem?_eq_some_iff.1 Ea.out).1).trans Ea.out); replace B := Below.then B b6; clear x0 x1 xf y0 y1 y2 y3 y4 yf; obtain ⟨x0, x1, xf⟩ := cells2 Er.out; obtain ⟨y0, y1, y2, y3, y4, yf⟩ := cells5 Ea.out; clear b6))
    go_ret
    exact ⟨rfl, B⟩
  | true =>
    rw [hrB] at hri
    obtain ⟨hn, ha⟩ := Kit15.right_ok hrB v1 v2 v3
    clear hrB v1 v2 v3 v4 v5
    obtain ⟨vb, hvb⟩ : ∃ z, Hid (Wk.other a.va a2 = z) := ⟨_, rfl⟩
    have ho := Wk.other_ok ha.va0 ha.va1 hlow.1 (show a2 < 4294967296 by omega)
    rw [hvb.out] at ho
    obtain ⟨o1, o2, o3⟩ := ho
    have hb : Wk.Ask.Ok ⟨vb, a.satp, a.status, a.access, a.priv⟩ := ⟨o1, o2, ha.satp0, ha.satp1, ha.status0, ha.status1, ha.acc, ha.pri⟩
    have hp := Wk.pages (base := base) (zs := zs) (a := a) (b := ⟨vb, a.satp, a.status, a.access, a.priv⟩) ha.va0 o1 o3 rfl rfl rfl rfl
    obtain ⟨⟨pa, c, t, z1⟩, qa⟩ : ∃ z, Hid (Wk.to base zs a = z) := ⟨_, rfl⟩
    obtain ⟨⟨pb, c', t', z2⟩, qb⟩ : ∃ z, Hid (Wk.to base zs ⟨vb, a.satp, a.status, a.access, a.priv⟩ = z) := ⟨_, rfl⟩
    rw [qa.out, qb.out] at hp
    obtain ⟨p1, p2, p3⟩ := hp
    have p1 : t = t' := p1
    have p2 : c = c' := p2
    have P3 := Lib.hid p3
    subst p1 p2
    have hTa := fun W0 W g r a' k' (RA : RamAt W0 W g r base a' k' zs) (hr : r < W.heap.size) => Walk.walk_to RA hr a ha qa
    have hTb := fun W0 W g r a' k' (RA : RamAt W0 W g r base a' k' zs) (hr : r < W.heap.size) => Walk.walk_to RA hr ⟨vb, a.satp, a.status, a.access, a.priv⟩ hb qb
    have n1 := Wk.and4095 ha.va0 ha.va1
    have n2 := Wk.and4095 o1 o2
    clear qa qb p3 o1 o2 o3
    unfold Walk.askv at hTa hTb
    cases t with
    | false =>
      clear P3
      go_enter Try.func7, Try.ntmps7
      go_wp2_with (first | (go_at_call 9; refine (hal _ _).mono ?_; rintro e w1 ⟨rfl, b5⟩; clear hal; obtain ⟨Er, Ea, B⟩ := alloc2_then b5; clear b5; replace Er := Lib.hid Er; replace Ea := Lib.hid Ea; obtain ⟨x0, x1, xf⟩ := cells2 Er.out; obtain ⟨y0, y1, y2, y3, y4, yf⟩ := cells5 Ea.out) | (go_at_call 10; refine (hri _).mono ?_; rintro e w2 ⟨rfl, b6⟩; clear hri; replace Er := Lib.hid ((b6.block _ (Array.getElem?_eq_some_iff.1 Er.out).1).trans Er.out); replace Ea := Lib.hid ((b6.block _ (Array.getElem?_eq_some_iff.1 Ea.out).1).trans Ea.out); replace B := Below.then B b6; clear x0 x1 xf y0 y1 y2 y3 y4 yf; obtain ⟨x0, x1, xf⟩ := cells2 Er.out; obtain ⟨y0, y1, y2, y3, y4, yf⟩ := cells5 Ea.out; clear b6; have Xx0 := fun o => Lib.cell?_alloc_some o x0; have Xx1 := fun o => Lib.cell?_alloc_some o x1; have Xy0 := fun o => Lib.cell?_alloc_some o y0; have Xy1 := fun o => Lib.cell?_alloc_some o y1; have Xy2 := fun o => Lib.cell?_alloc_some o y2; have Xy3 := fun o => Lib.cell?_alloc_some o y3; have Xy4 := fun o => Lib.cell?_alloc_some o y4))
      clear Xx0 Xx1 Xy0 Xy1 Xy2 Xy3 Xy4
      rw [show bits .or .u32 (bits .andNot .u32 a.va 4095) (bits .and .u32 a2 4095) = vb from hvb.out]
      have b6 := alloc1_below w2 (.cells #[.int .u32 vb, .int .u32 a.satp, .int .u32 a.status, .int .i64 a.access, .int .i64 a.priv] 27)
      have Eb := Lib.hid (heap_alloc_new w2 (.cells #[.int .u32 vb, .int .u32 a.satp, .int .u32 a.status, .int .i64 a.access, .int .i64 a.priv] 27))
      generalize w2.alloc (.cells #[.int .u32 vb, .int .u32 a.satp, .int .u32 a.status, .int .i64 a.access, .int .i64 a.priv] 27) = wB at *
      replace Er := Lib.hid ((b6.block _ (Array.getElem?_eq_some_iff.1 Er.out).1).trans Er.out); replace Ea := Lib.hid ((b6.block _ (Array.getElem?_eq_some_iff.1 Ea.out).1).trans Ea.out); replace B := Below.then B b6; clear x0 x1 xf y0 y1 y2 y3 y4 yf; obtain ⟨x0, x1, xf⟩ := cells2 Er.out; obtain ⟨y0, y1, y2, y3, y4, yf⟩ := cells5 Ea.out
      obtain ⟨z0, z1, z2, z3, z4, zf⟩ := cells5 Eb.out
      clear b6
      go_region_held3 (fun W => W.cell? ⟨w.heap.size, 0, none⟩ = some (.int .u32 base) ∧ W.cell? ⟨w.heap.size, 1, none⟩ = some (.slice ad n cap) ∧ W.cell? ⟨w.heap.size + 1, 0, none⟩ = some (.int .u32 a.va) ∧ W.cell? ⟨w.heap.size + 1, 1, none⟩ = some (.int .u32 a.satp) ∧ W.cell? ⟨w.heap.size + 1, 2, none⟩ = some (.int .u32 a.status) ∧ W.cell? ⟨w.heap.size + 1, 3, none⟩ = some (.int .i64 a.access) ∧ W.cell? ⟨w.heap.size + 1, 4, none⟩ = some (.int .i64 a.priv) ∧ W.cell? ⟨w2.heap.size, 0, none⟩ = some (.int .u32 vb) ∧ W.cell? ⟨w2.heap.size, 1, none⟩ = some (.int .u32 a.satp) ∧ W.cell? ⟨w2.heap.size, 2, none⟩ = some (.int .u32 a.status) ∧ W.cell? ⟨w2.heap.size, 3, none⟩ = some (.int .i64 a.access) ∧ W.cell? ⟨w2.heap.size, 4, none⟩ = some (.int .i64 a.priv)) (exact ⟨x0, x1, y0, y1, y2, y3, y4, z0, z1, z2, z3, z4⟩) (first | (go_at_call 11; refine (Kit15.ram_c hb0 hb1 (hW.below (by first | exact B | exact Below.then B (below_drew _))) hn).mono ?_; rintro e w3 ⟨g, r, a', k', rfl, RA, hr⟩; have Er0 := Er; have Ea0 := Ea; have Eb0 := Eb; have B0 := B; have b6 := RA.below; (try replace b6 := undrew b6); replace Er := Lib.hid ((b6.block _ (Array.getElem?_eq_some_iff.1 Er.out).1).trans Er.out); replace Ea := Lib.hid ((b6.block _ (Array.getElem?_eq_some_iff.1 Ea.out).1).trans Ea.out); replace Eb := Lib.hid ((b6.block _ (Array.getElem?_eq_some_iff.1 Eb.out).1).trans Eb.out); replace B := Below.then B b6; clear x0 x1 xf y0 y1 y2 y3 y4 yf z0 z1 z2 z3 z4 zf; obtain ⟨x0, x1, xf⟩ := cells2 Er.out; obtain ⟨y0, y1, y2, y3, y4, yf⟩ := cells5 Ea.out; obtain ⟨z0, z1, z2, z3, z4, zf⟩ := cells5 Eb.out; clear b6) | (go_at_call 12; refine (hTa _ _ _ _ _ _ RA hr).mono ?_; rintro e w4 ⟨rfl, RB, kp⟩; clear hTa; have b7 := RB.below; have er' := (b7.block _ (Array.getElem?_eq_some_iff.1 Er0.out).1).trans Er0.out; have ea' := (b7.block _ (Array.getElem?_eq_some_iff.1 Ea0.out).1).trans Ea0.out; have eb' := (b7.block _ (Array.getElem?_eq_some_iff.1 Eb0.out).1).trans Eb0.out; clear Er Ea Eb x0 x1 xf y0 y1 y2 y3 y4 yf z0 z1 z2 z3 z4 zf; have Er := Lib.hid er'; have Ea := Lib.hid ea'; have Eb := Lib.hid eb'; obtain ⟨x0, x1, xf⟩ := cells2 Er.out; obtain ⟨y0, y1, y2, y3, y4, yf⟩ := cells5 Ea.out; obtain ⟨z0, z1, z2, z3, z4, zf⟩ := cells5 Eb.out; clear er' ea' eb'; clear B; (try replace b7 := undrew b7); have B := Below.then B0 b7; clear b7 B0 Er0 Ea0 Eb0 RA RB kp hr))
      all_goals
        go_wp2
        go_region_held3 (fun W => W.cell? ⟨w.heap.size, 0, none⟩ = some (.int .u32 base) ∧ W.cell? ⟨w.heap.size, 1, none⟩ = some (.slice ad n cap) ∧ W.cell? ⟨w.heap.size + 1, 0, none⟩ = some (.int .u32 a.va) ∧ W.cell? ⟨w.heap.size + 1, 1, none⟩ = some (.int .u32 a.satp) ∧ W.cell? ⟨w.heap.size + 1, 2, none⟩ = some (.int .u32 a.status) ∧ W.cell? ⟨w.heap.size + 1, 3, none⟩ = some (.int .i64 a.access) ∧ W.cell? ⟨w.heap.size + 1, 4, none⟩ = some (.int .i64 a.priv) ∧ W.cell? ⟨w2.heap.size, 0, none⟩ = some (.int .u32 vb) ∧ W.cell? ⟨w2.heap.size, 1, none⟩ = some (.int .u32 a.satp) ∧ W.cell? ⟨w2.heap.size, 2, none⟩ = some (.int .u32 a.status) ∧ W.cell? ⟨w2.heap.size, 3, none⟩ = some (.int .i64 a.access) ∧ W.cell? ⟨w2.heap.size, 4, none⟩ = some (.int .i64 a.priv)) (exact ⟨x0, x1, y0, y1, y2, y3, y4, z0, z1, z2, z3, z4⟩) (first | (go_at_call 11; refine (Kit15.ram_c hb0 hb1 (hW.below (by first | exact B | exact Below.then B (below_drew _))) hn).mono ?_; rintro e w3 ⟨g, r, a', k', rfl, RA, hr⟩; have Er0 := Er; have Ea0 := Ea; have Eb0 := Eb; have B0 := B; have b6 := RA.below; (try replace b6 := undrew b6); replace Er := Lib.hid ((b6.block _ (Array.getElem?_eq_some_iff.1 Er.out).1).trans Er.out); replace Ea := Lib.hid ((b6.block _ (Array.getElem?_eq_some_iff.1 Ea.out).1).trans Ea.out); replace Eb := Lib.hid ((b6.block _ (Array.getElem?_eq_some_iff.1 Eb.out).1).trans Eb.out); replace B := Below.then B b6; clear x0 x1 xf y0 y1 y2 y3 y4 yf z0 z1 z2 z3 z4 zf; obtain ⟨x0, x1, xf⟩ := cells2 Er.out; obtain ⟨y0, y1, y2, y3, y4, yf⟩ := cells5 Ea.out; obtain ⟨z0, z1, z2, z3, z4, zf⟩ := cells5 Eb.out; clear b6) | (go_at_call 12; refine (hTb _ _ _ _ _ _ RA hr).mono ?_; rintro e w4 ⟨rfl, RB, kp⟩; clear hTb; have b7 := RB.below; have er' := (b7.block _ (Array.getElem?_eq_some_iff.1 Er0.out).1).trans Er0.out; have ea' := (b7.block _ (Array.getElem?_eq_some_iff.1 Ea0.out).1).trans Ea0.out; have eb' := (b7.block _ (Array.getElem?_eq_some_iff.1 Eb0.out).1).trans Eb0.out; clear Er Ea Eb x0 x1 xf y0 y1 y2 y3 y4 yf z0 z1 z2 z3 z4 zf; have Er := Lib.hid er'; have Ea := Lib.hid ea'; have Eb := Lib.hid eb'; obtain ⟨x0, x1, xf⟩ := cells2 Er.out; obtain ⟨y0, y1, y2, y3, y4, yf⟩ := cells5 Ea.out; obtain ⟨z0, z1, z2, z3, z4, zf⟩ := cells5 Eb.out; clear er' ea' eb'; clear B; (try replace b7 := undrew b7); have B := Below.then B0 b7; clear b7 B0 Er0 Ea0 Eb0 RA RB kp hr))
      all_goals
        go_wp2
        go_ret
        exact ⟨rfl, B⟩
    | true =>
      have E3 : ((pa - a.va % 4096) % 4294967296 == (pb - vb % 4096) % 4294967296) = true := by rw [(P3.out rfl).1]; exact beq_self_eq_true _
      clear P3
      go_enter Try.func7, Try.ntmps7
      go_wp2_with (first | (go_at_call 9; refine (hal _ _).mono ?_; rintro e w1 ⟨rfl, b5⟩; clear hal; obtain ⟨Er, Ea, B⟩ := alloc2_then b5; clear b5; replace Er := Lib.hid Er; replace Ea := Lib.hid Ea; obtain ⟨x0, x1, xf⟩ := cells2 Er.out; obtain ⟨y0, y1, y2, y3, y4, yf⟩ := cells5 Ea.out) | (go_at_call 10; refine (hri _).mono ?_; rintro e w2 ⟨rfl, b6⟩; clear hri; replace Er := Lib.hid ((b6.block _ (Array.getElem?_eq_some_iff.1 Er.out).1).trans Er.out); replace Ea := Lib.hid ((b6.block _ (Array.getElem?_eq_some_iff.1 Ea.out).1).trans Ea.out); replace B := Below.then B b6; clear x0 x1 xf y0 y1 y2 y3 y4 yf; obtain ⟨x0, x1, xf⟩ := cells2 Er.out; obtain ⟨y0, y1, y2, y3, y4, yf⟩ := cells5 Ea.out; clear b6; have Xx0 := fun o => Lib.cell?_alloc_some o x0; have Xx1 := fun o => Lib.cell?_alloc_some o x1; have Xy0 := fun o => Lib.cell?_alloc_some o y0; have Xy1 := fun o => Lib.cell?_alloc_some o y1; have Xy2 := fun o => Lib.cell?_alloc_some o y2; have Xy3 := fun o => Lib.cell?_alloc_some o y3; have Xy4 := fun o => Lib.cell?_alloc_some o y4))
      clear Xx0 Xx1 Xy0 Xy1 Xy2 Xy3 Xy4
      rw [show bits .or .u32 (bits .andNot .u32 a.va 4095) (bits .and .u32 a2 4095) = vb from hvb.out]
      have b6 := alloc1_below w2 (.cells #[.int .u32 vb, .int .u32 a.satp, .int .u32 a.status, .int .i64 a.access, .int .i64 a.priv] 27)
      have Eb := Lib.hid (heap_alloc_new w2 (.cells #[.int .u32 vb, .int .u32 a.satp, .int .u32 a.status, .int .i64 a.access, .int .i64 a.priv] 27))
      generalize w2.alloc (.cells #[.int .u32 vb, .int .u32 a.satp, .int .u32 a.status, .int .i64 a.access, .int .i64 a.priv] 27) = wB at *
      replace Er := Lib.hid ((b6.block _ (Array.getElem?_eq_some_iff.1 Er.out).1).trans Er.out); replace Ea := Lib.hid ((b6.block _ (Array.getElem?_eq_some_iff.1 Ea.out).1).trans Ea.out); replace B := Below.then B b6; clear x0 x1 xf y0 y1 y2 y3 y4 yf; obtain ⟨x0, x1, xf⟩ := cells2 Er.out; obtain ⟨y0, y1, y2, y3, y4, yf⟩ := cells5 Ea.out
      obtain ⟨z0, z1, z2, z3, z4, zf⟩ := cells5 Eb.out
      clear b6
      go_region_held3 (fun W => W.cell? ⟨w.heap.size, 0, none⟩ = some (.int .u32 base) ∧ W.cell? ⟨w.heap.size, 1, none⟩ = some (.slice ad n cap) ∧ W.cell? ⟨w.heap.size + 1, 0, none⟩ = some (.int .u32 a.va) ∧ W.cell? ⟨w.heap.size + 1, 1, none⟩ = some (.int .u32 a.satp) ∧ W.cell? ⟨w.heap.size + 1, 2, none⟩ = some (.int .u32 a.status) ∧ W.cell? ⟨w.heap.size + 1, 3, none⟩ = some (.int .i64 a.access) ∧ W.cell? ⟨w.heap.size + 1, 4, none⟩ = some (.int .i64 a.priv) ∧ W.cell? ⟨w2.heap.size, 0, none⟩ = some (.int .u32 vb) ∧ W.cell? ⟨w2.heap.size, 1, none⟩ = some (.int .u32 a.satp) ∧ W.cell? ⟨w2.heap.size, 2, none⟩ = some (.int .u32 a.status) ∧ W.cell? ⟨w2.heap.size, 3, none⟩ = some (.int .i64 a.access) ∧ W.cell? ⟨w2.heap.size, 4, none⟩ = some (.int .i64 a.priv)) (exact ⟨x0, x1, y0, y1, y2, y3, y4, z0, z1, z2, z3, z4⟩) (first | (go_at_call 11; refine (Kit15.ram_c hb0 hb1 (hW.below (by first | exact B | exact Below.then B (below_drew _))) hn).mono ?_; rintro e w3 ⟨g, r, a', k', rfl, RA, hr⟩; have Er0 := Er; have Ea0 := Ea; have Eb0 := Eb; have B0 := B; have b6 := RA.below; (try replace b6 := undrew b6); replace Er := Lib.hid ((b6.block _ (Array.getElem?_eq_some_iff.1 Er.out).1).trans Er.out); replace Ea := Lib.hid ((b6.block _ (Array.getElem?_eq_some_iff.1 Ea.out).1).trans Ea.out); replace Eb := Lib.hid ((b6.block _ (Array.getElem?_eq_some_iff.1 Eb.out).1).trans Eb.out); replace B := Below.then B b6; clear x0 x1 xf y0 y1 y2 y3 y4 yf z0 z1 z2 z3 z4 zf; obtain ⟨x0, x1, xf⟩ := cells2 Er.out; obtain ⟨y0, y1, y2, y3, y4, yf⟩ := cells5 Ea.out; obtain ⟨z0, z1, z2, z3, z4, zf⟩ := cells5 Eb.out; clear b6) | (go_at_call 12; refine (hTa _ _ _ _ _ _ RA hr).mono ?_; rintro e w4 ⟨rfl, RB, kp⟩; clear hTa; have b7 := RB.below; have er' := (b7.block _ (Array.getElem?_eq_some_iff.1 Er0.out).1).trans Er0.out; have ea' := (b7.block _ (Array.getElem?_eq_some_iff.1 Ea0.out).1).trans Ea0.out; have eb' := (b7.block _ (Array.getElem?_eq_some_iff.1 Eb0.out).1).trans Eb0.out; clear Er Ea Eb x0 x1 xf y0 y1 y2 y3 y4 yf z0 z1 z2 z3 z4 zf; have Er := Lib.hid er'; have Ea := Lib.hid ea'; have Eb := Lib.hid eb'; obtain ⟨x0, x1, xf⟩ := cells2 Er.out; obtain ⟨y0, y1, y2, y3, y4, yf⟩ := cells5 Ea.out; obtain ⟨z0, z1, z2, z3, z4, zf⟩ := cells5 Eb.out; clear er' ea' eb'; clear B; (try replace b7 := undrew b7); have B := Below.then B0 b7; clear b7 B0 Er0 Ea0 Eb0 RA RB kp hr))
      all_goals
        go_wp2
        go_region_held3 (fun W => W.cell? ⟨w.heap.size, 0, none⟩ = some (.int .u32 base) ∧ W.cell? ⟨w.heap.size, 1, none⟩ = some (.slice ad n cap) ∧ W.cell? ⟨w.heap.size + 1, 0, none⟩ = some (.int .u32 a.va) ∧ W.cell? ⟨w.heap.size + 1, 1, none⟩ = some (.int .u32 a.satp) ∧ W.cell? ⟨w.heap.size + 1, 2, none⟩ = some (.int .u32 a.status) ∧ W.cell? ⟨w.heap.size + 1, 3, none⟩ = some (.int .i64 a.access) ∧ W.cell? ⟨w.heap.size + 1, 4, none⟩ = some (.int .i64 a.priv) ∧ W.cell? ⟨w2.heap.size, 0, none⟩ = some (.int .u32 vb) ∧ W.cell? ⟨w2.heap.size, 1, none⟩ = some (.int .u32 a.satp) ∧ W.cell? ⟨w2.heap.size, 2, none⟩ = some (.int .u32 a.status) ∧ W.cell? ⟨w2.heap.size, 3, none⟩ = some (.int .i64 a.access) ∧ W.cell? ⟨w2.heap.size, 4, none⟩ = some (.int .i64 a.priv)) (exact ⟨x0, x1, y0, y1, y2, y3, y4, z0, z1, z2, z3, z4⟩) (first | (go_at_call 11; refine (Kit15.ram_c hb0 hb1 (hW.below (by first | exact B | exact Below.then B (below_drew _))) hn).mono ?_; rintro e w3 ⟨g, r, a', k', rfl, RA, hr⟩; have Er0 := Er; have Ea0 := Ea; have Eb0 := Eb; have B0 := B; have b6 := RA.below; (try replace b6 := undrew b6); replace Er := Lib.hid ((b6.block _ (Array.getElem?_eq_some_iff.1 Er.out).1).trans Er.out); replace Ea := Lib.hid ((b6.block _ (Array.getElem?_eq_some_iff.1 Ea.out).1).trans Ea.out); replace Eb := Lib.hid ((b6.block _ (Array.getElem?_eq_some_iff.1 Eb.out).1).trans Eb.out); replace B := Below.then B b6; clear x0 x1 xf y0 y1 y2 y3 y4 yf z0 z1 z2 z3 z4 zf; obtain ⟨x0, x1, xf⟩ := cells2 Er.out; obtain ⟨y0, y1, y2, y3, y4, yf⟩ := cells5 Ea.out; obtain ⟨z0, z1, z2, z3, z4, zf⟩ := cells5 Eb.out; clear b6) | (go_at_call 12; refine (hTb _ _ _ _ _ _ RA hr).mono ?_; rintro e w4 ⟨rfl, RB, kp⟩; clear hTb; have b7 := RB.below; have er' := (b7.block _ (Array.getElem?_eq_some_iff.1 Er0.out).1).trans Er0.out; have ea' := (b7.block _ (Array.getElem?_eq_some_iff.1 Ea0.out).1).trans Ea0.out; have eb' := (b7.block _ (Array.getElem?_eq_some_iff.1 Eb0.out).1).trans Eb0.out; clear Er Ea Eb x0 x1 xf y0 y1 y2 y3 y4 yf z0 z1 z2 z3 z4 zf; have Er := Lib.hid er'; have Ea := Lib.hid ea'; have Eb := Lib.hid eb'; obtain ⟨x0, x1, xf⟩ := cells2 Er.out; obtain ⟨y0, y1, y2, y3, y4, yf⟩ := cells5 Ea.out; obtain ⟨z0, z1, z2, z3, z4, zf⟩ := cells5 Eb.out; clear er' ea' eb'; clear B; (try replace b7 := undrew b7); have B := Below.then B0 b7; clear b7 B0 Er0 Ea0 Eb0 RA RB kp hr))
      all_goals
        go_wp2
        go_ret
        exact ⟨rfl, B⟩
end L15Pages
end Go.Proofs.Ytejgaldeamjplaa
