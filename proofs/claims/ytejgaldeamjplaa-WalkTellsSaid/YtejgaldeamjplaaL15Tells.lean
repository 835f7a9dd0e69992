/- WalkTells: the address that any one means, by whatever tables, for whatever, by whomever, or the cause why there is none, and what becomes of the tables, is the document's. No condition. -/
import Derived.Test.YtejgaldeamjplaaKit15
import Derived.Deep.RegionHeld3
namespace Go.Proofs.Ytejgaldeamjplaa
open Go.RowKit
set_option linter.unusedVariables false
namespace L15Tells
theorem ram_wd {w0 w : World} {g r : Nat} {base : Int} {a : Option Addr} {kap : Nat} {zs : List Int} (h : RamAt w0 w g r base a kap zs) : Wd w a zs.length (max kap zs.length) zs := by
  refine ⟨rfl, Nat.le_max_right _ _, ?_, h.z0⟩
  rcases h.rows with ⟨e1, e2, e3⟩ | ⟨e, _, _, cur, hc, hi⟩
  · exact .inl ⟨e1, e2, by omega⟩
  · refine .inr ⟨_, e, fun i hi' => ⟨r, 0, rfl, ?_⟩⟩
    rw [Nat.zero_add]
    simp only [World.cell?, hc]
    exact hi i hi'
set_option maxHeartbeats 2000000 in
set_option maxRecDepth 100000 in
theorem WalkTells_c (cs0 : Array Value) (cs1 : Array Value) (w : World) (s0 : Sh.ok w (.agg 2 [(0, 1, .int .u32), (1, 1, .slice 1 (.int .u32))]) cs0.toList) (s1 : Sh.ok w (.agg 5 [(0, 1, .int .u32), (1, 1, .int .u32), (2, 1, .int .u32), (3, 1, .int .i64), (4, 1, .int .i64)]) cs1.toList) :
    Calls Try.prog 3 #[.agg cs0, .agg cs1] w fun e w' => e = .returned (.bool true) ∧ Below w.heap.size w w' := by
  obtain ⟨base, ad, n, cap, zs, hcs, hb0, hb1, hW⟩ := ram_of s0
  obtain ⟨a, hca, v1, v2, v3, v4, v5⟩ := ask_of s1
  clear s0 s1
  rw [hcs, hca]
  clear hcs hca
  have hal := fun o1 o2 => Live15.alive_c ((w.alloc o1).alloc o2)
  have hri := fun W => Kit15.right_c W base ad n cap a
  cases hrB : Kit15.rightB n a with
  | false =>
    rw [hrB] at hri
    go_enter Try.func3, Try.ntmps3
    go_wp2_with (first | (go_at_call 9; refine (hal _ _).mono ?_; rintro e w1 ⟨rfl, b5⟩; clear hal; obtain ⟨Er, Ea, B⟩ := alloc2_then b5; clear b5; replace Er := Lib.hid Er; replace Ea := Lib.hid Ea; obtain ⟨x0, x1, xf⟩ := cells2 Er.out; obtain ⟨y0, y1, y2, y3, y4, yf⟩ := cells5 Ea.out) | (go_at_call 10; refine (hri _).mono ?_; rintro e w2 ⟨rfl, b6⟩; clear hri; replace Er := Lib.hid ((b6.block _ (Array.getElem?_eq_some_iff.1 Er.out).1).trans Er.out); replace Ea := Lib.hid ((b6.block _ (Array.getElem?_eq_some_iff.1 Ea.out).1).trans Ea.out); replace B := Below.then B b6; clear x0 x1 xf y0 y1 y2 y3 y4 yf; obtain ⟨x0, x1, xf⟩ := cells2 Er.out; obtain ⟨y0, y1, y2, y3, y4, yf⟩ := cells5 Ea.out; clear b6))
    go_ret
    exact ⟨rfl, B⟩
  | true =>
    rw [hrB] at hri
    obtain ⟨hn, ha⟩ := Kit15.right_ok hrB v1 v2 v3
    clear hrB v1 v2 v3 v4 v5
    obtain ⟨⟨pa, c, t, zs'⟩, q⟩ : ∃ z, Hid (Wk.to base zs a = z) := ⟨_, rfl⟩
    have hT := fun W0 W g r a' k' (RA : RamAt W0 W g r base a' k' zs) (hr : r < W.heap.size) => Walk.walk_to RA hr a ha q
    have hRT := fun W (hw : Wd W ad n cap zs) => Ref15.to_c hb0 hb1 hw hn a ha q
    unfold Walk.askv at hT
    go_enter Try.func3, Try.ntmps3
    go_wp2_with (first | (go_at_call 9; refine (hal _ _).mono ?_; rintro e w1 ⟨rfl, b5⟩; clear hal; obtain ⟨Er, Ea, B⟩ := alloc2_then b5; clear b5; replace Er := Lib.hid Er; replace Ea := Lib.hid Ea; obtain ⟨x0, x1, xf⟩ := cells2 Er.out; obtain ⟨y0, y1, y2, y3, y4, yf⟩ := cells5 Ea.out) | (go_at_call 10; refine (hri _).mono ?_; rintro e w2 ⟨rfl, b6⟩; clear hri; replace Er := Lib.hid ((b6.block _ (Array.getElem?_eq_some_iff.1 Er.out).1).trans Er.out); replace Ea := Lib.hid ((b6.block _ (Array.getElem?_eq_some_iff.1 Ea.out).1).trans Ea.out); replace B := Below.then B b6; clear x0 x1 xf y0 y1 y2 y3 y4 yf; obtain ⟨x0, x1, xf⟩ := cells2 Er.out; obtain ⟨y0, y1, y2, y3, y4, yf⟩ := cells5 Ea.out; clear b6) | (go_at_call 11; refine (Kit15.ram_c hb0 hb1 (hW.below (by first | exact B | exact Below.then B (below_drew _))) hn).mono ?_; rintro e w3 ⟨g, r, a', k', rfl, RA, hr⟩; have Er0 := Er; have Ea0 := Ea; have B0 := B; have b6 := RA.below; (try replace b6 := undrew b6); replace Er := Lib.hid ((b6.block _ (Array.getElem?_eq_some_iff.1 Er.out).1).trans Er.out); replace Ea := Lib.hid ((b6.block _ (Array.getElem?_eq_some_iff.1 Ea.out).1).trans Ea.out); replace B := Below.then B b6; clear x0 x1 xf y0 y1 y2 y3 y4 yf; obtain ⟨x0, x1, xf⟩ := cells2 Er.out; obtain ⟨y0, y1, y2, y3, y4, yf⟩ := cells5 Ea.out; clear b6) | (go_at_call 12; refine (hT _ _ _ _ _ _ RA hr).mono ?_; rintro e w4 ⟨rfl, RB, kp⟩; clear hT; have b7 := RB.below; have er := (b7.block _ (Array.getElem?_eq_some_iff.1 Er0.out).1).trans Er0.out; have ea := (b7.block _ (Array.getElem?_eq_some_iff.1 Ea0.out).1).trans Ea0.out; clear Er Ea x0 x1 xf y0 y1 y2 y3 y4 yf; have Er := Lib.hid er; have Ea := Lib.hid ea; obtain ⟨x0, x1, xf⟩ := cells2 Er.out; obtain ⟨y0, y1, y2, y3, y4, yf⟩ := cells5 Ea.out; clear er ea; clear B; (try replace b7 := undrew b7); have B := Below.then B0 b7; clear b7) | (go_at_call 13; refine (hRT _ (hW.below B)).mono ?_; rintro e w5 ⟨a5, k5, rfl, WX, b6⟩; clear hRT; replace RB := RB.then b6; replace Er := Lib.hid ((b6.block _ (Array.getElem?_eq_some_iff.1 Er.out).1).trans Er.out); replace Ea := Lib.hid ((b6.block _ (Array.getElem?_eq_some_iff.1 Ea.out).1).trans Ea.out); replace B := Below.then B b6; clear x0 x1 xf y0 y1 y2 y3 y4 yf; obtain ⟨x0, x1, xf⟩ := cells2 Er.out; obtain ⟨y0, y1, y2, y3, y4, yf⟩ := cells5 Ea.out; clear b6))
    have hzl : zs'.length = n := WX.len
    have WM := ram_wd RB
    obtain ⟨g0, g1⟩ := RB.cells
    rw [hzl] at g1 WM
    have b6 := alloc1_below w5 (.cells #[.int .u32 pa, .int .u32 c, .bool t, .int .u32 base, .slice a5 n k5] 36)
    have Ex := heap_alloc_new w5 (.cells #[.int .u32 pa, .int .u32 c, .bool t, .int .u32 base, .slice a5 n k5] 36)
    generalize w5.alloc (.cells #[.int .u32 pa, .int .u32 c, .bool t, .int .u32 base, .slice a5 n k5] 36) = wX at *
    replace WM := WM.below b6
    replace WX := WX.below b6
    have C6 := fun (p : Addr) (v : Value) (h : w5.cell? p = some v) => (b6.cell (World.block_lt_of_cell? w5 p h)).trans h
    replace x0 := C6 _ _ x0
    replace g0 := C6 _ _ g0
    replace g1 := C6 _ _ g1
    replace B := Below.then B b6
    obtain ⟨z0, z1, z2, z3, z4, zf⟩ := cells5 Ex
    clear C6 b6 Ex x1 xf y0 y1 y2 y3 y4 yf Er Ea
    go_region_held3 (fun W => W.cell? ⟨w.heap.size, 0, none⟩ = some (.int .u32 base) ∧ W.cell? ⟨g, 0, none⟩ = some (.int .u32 base) ∧ W.cell? ⟨g, 1, none⟩ = some (.slice a' n k') ∧ W.cell? ⟨w5.heap.size, 0, none⟩ = some (.int .u32 pa) ∧ W.cell? ⟨w5.heap.size, 1, none⟩ = some (.int .u32 c) ∧ W.cell? ⟨w5.heap.size, 2, none⟩ = some (.bool t) ∧ W.cell? ⟨w5.heap.size, 3, none⟩ = some (.int .u32 base) ∧ W.cell? ⟨w5.heap.size, 4, none⟩ = some (.slice a5 n k5)) (exact ⟨x0, g0, g1, z0, z1, z2, z3, z4⟩) (first | (go_at_call 14; refine (Kit15.words_same (WM.below (by first | exact Below.refl _ _ | exact below_drew _)) (WX.below (by first | exact Below.refl _ _ | exact below_drew _)) hn).mono ?_; rintro e w6 ⟨rfl, b6⟩; (try replace b6 := undrew b6); replace B := Below.then B b6; have C6 := fun (p : Addr) (v : Value) (h : wX.cell? p = some v) => (b6.cell (World.block_lt_of_cell? wX p h)).trans h; replace x0 := C6 _ _ x0; replace g0 := C6 _ _ g0; replace g1 := C6 _ _ g1; replace z0 := C6 _ _ z0; replace z1 := C6 _ _ z1; replace z2 := C6 _ _ z2; replace z3 := C6 _ _ z3; replace z4 := C6 _ _ z4; clear C6 b6 WM WX))
    go_wp2
    go_ret
    exact ⟨rfl, B⟩
end L15Tells
end Go.Proofs.Ytejgaldeamjplaa
