/- dioptralaw02.does: an act on a chip, and on the document's. -/
import Derived.Test.YtmaakjabjpppkaaRnor11
import Derived.Test.YtmaakjabjpppkaaLive2
import Derived.Deep.RegionHeld3
namespace Go.Proofs.Ytmaakjabjpppkaa
open Go.RowKit
set_option linter.unusedVariables false
attribute [local go_sem] max2_int min2_int max_two min_two
namespace Does2
/-- A chip, and the document's, that are one plain chip. -/
structure Both (w0 w : World) (g bw be rw_ rkw re rke : Nat) (c : Nr.C) : Prop where
  own : Own w0 w g bw be c
  ref : Rnor.RAt w rw_ rkw re rke c
  n1 : ¬ Nor.Three g bw be rw_
  n2 : ¬ Nor.Three g bw be re
theorem cells3 {w : World} {b : Nat} {c0 c1 c2 : Value} {t : TypeId} (h : w.heap[b]? = some (.cells #[c0, c1, c2] t (0, 0))) : w.cell? ⟨b, 0, none⟩ = some c0 ∧ w.cell? ⟨b, 1, none⟩ = some c1 ∧ w.cell? ⟨b, 2, none⟩ = some c2 := by
  simp only [World.cell?, h]
  simp
/-- The boxes of the call, and what has turned since it began. -/
structure Fr (g bw be : Nat) (w W : World) (m : Array Value) (k t v : Int) : Prop where
  b0 : W.heap[w.heap.size]? = some (.cells m 49 (0, 0))
  b1 : W.heap[w.heap.size + 1]? = some (.cells #[.int .u8 k, .int .i64 t, .int .u32 v] 44 (0, 0))
  b2 : W.heap[w.heap.size + 1 + 1]? = some (.cells #[.slice none 0 0, .slice none 0 0, .int .i64 0, .int .i64 0, .int .u32 0, .bool false] 49 (0, 0))
  kp : Keep (Nor.Three g bw be) w W
theorem Fr.start (g bw be : Nat) (w : World) (m : Array Value) (k t v : Int) : Fr g bw be w (((w.alloc (.cells m 49)).alloc (.cells #[.int .u8 k, .int .i64 t, .int .u32 v] 44)).alloc (.cells #[.slice none 0 0, .slice none 0 0, .int .i64 0, .int .i64 0, .int .u32 0, .bool false] 49)) m k t v := by
  have e1 : (w.alloc (.cells m 49)).heap.size = w.heap.size + 1 := by simp
  have e2 : ((w.alloc (.cells m 49)).alloc (.cells #[.int .u8 k, .int .i64 t, .int .u32 v] 44)).heap.size = w.heap.size + 1 + 1 := by simp
  refine ⟨Rnor.heap_al (Rnor.heap_al (heap_alloc_new _ _) _) _, ?_, ?_, (((Keep.refl _ w).alloc _).alloc _).alloc _⟩
  · have := heap_alloc_new (w.alloc (.cells m 49)) (.cells #[.int .u8 k, .int .i64 t, .int .u32 v] 44)
    rw [e1] at this
    exact Rnor.heap_al this _
  · have := heap_alloc_new ((w.alloc (.cells m 49)).alloc (.cells #[.int .u8 k, .int .i64 t, .int .u32 v] 44)) (.cells #[.slice none 0 0, .slice none 0 0, .int .i64 0, .int .i64 0, .int .u32 0, .bool false] 49)
    rw [e2] at this
    exact this
theorem Fr.keep {g bw be : Nat} {w W W' : World} {m : Array Value} {k t v : Int} (h : Fr g bw be w W m k t v) (hK : Keep (Nor.Three g bw be) W W') (hg : g < w.heap.size ∧ bw < w.heap.size ∧ be < w.heap.size) : Fr g bw be w W' m k t v := by
  have T : ∀ r, w.heap.size ≤ r → ¬ Nor.Three g bw be r := by intro r hr; unfold Nor.Three; omega
  exact ⟨(hK.block _ (Array.getElem?_eq_some_iff.1 h.b0).1 (T _ (Nat.le_refl _))).trans h.b0, (hK.block _ (Array.getElem?_eq_some_iff.1 h.b1).1 (T _ (by omega))).trans h.b1, (hK.block _ (Array.getElem?_eq_some_iff.1 h.b2).1 (T _ (by omega))).trans h.b2, h.kp.trans hK⟩
theorem Fr.below {g bw be : Nat} {w W W' : World} {m : Array Value} {k t v : Int} (h : Fr g bw be w W m k t v) (hB : Below W.heap.size W W') (hg : g < w.heap.size ∧ bw < w.heap.size ∧ be < w.heap.size) : Fr g bw be w W' m k t v := h.keep (Keep.below (Keep.refl _ _) hB) hg
theorem Fr.drew {g bw be : Nat} {w W : World} {m : Array Value} {k t v : Int} (h : Fr g bw be w W m k t v) : Fr g bw be w W.drew m k t v := ⟨h.b0, h.b1, h.b2, h.kp.drew⟩
theorem Both.start {w0 w : World} {g bw be rw_ rkw re rke : Nat} {c : Nr.C} (h : Both w0 w g bw be rw_ rkw re rke c) (A B C : Obj) : Both w0 (((w.alloc A).alloc B).alloc C) g bw be rw_ rkw re rke c := by
  have b : Below w.heap.size w (((w.alloc A).alloc B).alloc C) := (alloc2_below w A B).alloc (by simp; omega) _
  exact ⟨h.own.then b, h.ref.below b, h.n1, h.n2⟩
theorem put6_cell {w : World} {r g j : Nat} {v : Value} (n : ¬ g = r) (x0 x1 x2 x3 x4 x5 : Value) (h : w.cell? ⟨g, j, none⟩ = some v) : ((((((w.setCell ⟨r, 0, none⟩ x0).setCell ⟨r, 1, none⟩ x1).setCell ⟨r, 2, none⟩ x2).setCell ⟨r, 3, none⟩ x3).setCell ⟨r, 4, none⟩ x4).setCell ⟨r, 5, none⟩ x5).cell? ⟨g, j, none⟩ = some v := by
  unfold World.cell? at h ⊢
  rw [put6_away n]
  exact h
theorem drew_cell {w : World} {p : Addr} {v : Value} (h : w.cell? p = some v) : w.drew.cell? p = some v := h
theorem Both.fin {w0 w w3 : World} {g bw be a kap a2 kap2 : Nat} {c : Nr.C} {m : Array Value} {k t v : Int} (hw : w0.heap.size ≤ w.heap.size) (F : Fr g bw be w w3 m k t v) (O : Own w0 w3 g bw be c) (R : Rnor.RAt w3 a kap a2 kap2 c) (n1 : ¬ Nor.Three g bw be a) (n2 : ¬ Nor.Three g bw be a2) (hg : g < w.heap.size ∧ bw < w.heap.size ∧ be < w.heap.size) (x0 x1 x2 x3 x4 x5 : Value) :
    Both w0 ((((((w3.setCell ⟨w.heap.size + 1 + 1, 0, none⟩ x0).setCell ⟨w.heap.size + 1 + 1, 1, none⟩ x1).setCell ⟨w.heap.size + 1 + 1, 2, none⟩ x2).setCell ⟨w.heap.size + 1 + 1, 3, none⟩ x3).setCell ⟨w.heap.size + 1 + 1, 4, none⟩ x4).setCell ⟨w.heap.size + 1 + 1, 5, none⟩ x5) g bw be a kap a2 kap2 c ∧
      Keep (Nor.Three g bw be) w ((((((w3.setCell ⟨w.heap.size + 1 + 1, 0, none⟩ x0).setCell ⟨w.heap.size + 1 + 1, 1, none⟩ x1).setCell ⟨w.heap.size + 1 + 1, 2, none⟩ x2).setCell ⟨w.heap.size + 1 + 1, 3, none⟩ x3).setCell ⟨w.heap.size + 1 + 1, 4, none⟩ x4).setCell ⟨w.heap.size + 1 + 1, 5, none⟩ x5) := by
  have K1 : Keep (fun r => r = w.heap.size + 1 + 1) w3 ((((((w3.setCell ⟨w.heap.size + 1 + 1, 0, none⟩ x0).setCell ⟨w.heap.size + 1 + 1, 1, none⟩ x1).setCell ⟨w.heap.size + 1 + 1, 2, none⟩ x2).setCell ⟨w.heap.size + 1 + 1, 3, none⟩ x3).setCell ⟨w.heap.size + 1 + 1, 4, none⟩ x4).setCell ⟨w.heap.size + 1 + 1, 5, none⟩ x5) := by
    have st : ∀ (W : World) (j : Nat) (x : Value), Keep (fun r => r = w.heap.size + 1 + 1) w3 W → Keep (fun r => r = w.heap.size + 1 + 1) w3 (W.setCell ⟨w.heap.size + 1 + 1, j, none⟩ x) := fun W j x h => h.setCell (p := ⟨w.heap.size + 1 + 1, j, none⟩) (.inl rfl) x
    exact st _ _ _ (st _ _ _ (st _ _ _ (st _ _ _ (st _ _ _ (st _ _ _ (Keep.refl _ _))))))
  have e := F.b2
  generalize (((((w3.setCell ⟨w.heap.size + 1 + 1, 0, none⟩ x0).setCell ⟨w.heap.size + 1 + 1, 1, none⟩ x1).setCell ⟨w.heap.size + 1 + 1, 2, none⟩ x2).setCell ⟨w.heap.size + 1 + 1, 3, none⟩ x3).setCell ⟨w.heap.size + 1 + 1, 4, none⟩ x4).setCell ⟨w.heap.size + 1 + 1, 5, none⟩ x5 = W at *
  refine ⟨⟨⟨O.chip.keep K1 (by omega) (by omega) (by omega), O.lg, O.lw, O.le, ?_⟩, R.keep K1 ?_ ?_, n1, n2⟩, ?_⟩
  · exact ⟨K1.os.trans O.below.os, K1.tape.trans O.below.tape, K1.output.trans O.below.output, Nat.le_trans O.below.size K1.size, fun r hr => (K1.block r (Nat.lt_of_lt_of_le hr O.below.size) (by omega)).trans (O.below.block r hr)⟩
  · intro d
    obtain ⟨cur, ea, hc⟩ := R.words
    rw [d, e] at ea
    cases ea
  · intro d
    obtain ⟨cur, ea, hc⟩ := R.wear
    rw [d, e] at ea
    cases ea
  · have B := F.kp
    exact ⟨K1.os.trans B.os, K1.tape.trans B.tape, K1.output.trans B.output, Nat.le_trans B.size K1.size, fun r hr hn => (K1.block r (Nat.lt_of_lt_of_le hr B.size) (by omega)).trans (B.block r hr hn)⟩
theorem not_three {w W : World} {g bw be x y : Nat} (n : ¬ Nor.Three g bw be x) (h : y = x ∨ W.heap.size ≤ y) (hs : w.heap.size ≤ W.heap.size) (hg : g < w.heap.size ∧ bw < w.heap.size ∧ be < w.heap.size) : ¬ Nor.Three g bw be y := by
  rcases h with rfl | h
  · exact n
  · unfold Nor.Three; omega
theorem programs_wl {c c' : Nr.C} {x v e : Int} (q : Nr.programs c x v = (e, c')) : c'.wear.length = c.wear.length := by
  have e2 : c' = (Nr.programs c x v).2 := by rw [q]
  subst e2
  unfold Nr.programs
  split <;> rfl
theorem erases_wl {c c' : Nr.C} {x e : Int} (q : Nr.erases c x = (e, c')) : c'.wear.length = c.wear.length := by
  have e2 : c' = (Nr.erases c x).2 := by rw [q]
  subst e2
  unfold Nr.erases
  split
  · split
    · simp [Nr.erase, Nr.change]
    · rfl
  · rfl
set_option maxHeartbeats 1000000 in
set_option maxRecDepth 100000 in
theorem does3_c {w0 w : World} {g bw be rw_ rkw re rke : Nat} {c : Nr.C} (h : Both w0 w g bw be rw_ rkw re rke c) {k t v : Int} (hk : 0 ≤ k ∧ k < 256) (ht : -9223372036854775808 ≤ t ∧ t ≤ 9223372036854775807) (hv : 0 ≤ v ∧ v < 4294967296) (h3 : k % 8 = 3) :
    Calls Try.prog 25 #[.pointer (some ⟨g, 0, none⟩), Rnor.rv rw_ rkw re rke c, .agg #[.int .u8 k, .int .i64 t, .int .u32 v]] w fun e w' => ∃ c' a kap a2 kap2, e = .returned (.tuple #[Rnor.rv a kap a2 kap2 c', .bool true]) ∧ Both w0 w' g bw be a kap a2 kap2 c' ∧ Keep (Nor.Three g bw be) w w' ∧ c'.wear.length = c.wear.length := by
  obtain ⟨⟨e, c'⟩, q⟩ : ∃ p, Hid (Nr.erases c t = p) := ⟨_, Lib.hid rfl⟩
  have HWL := Lib.hid (erases_wl q.out)
  have hg := h.own.chip.lt
  have F0 := Fr.start g bw be w #[.slice (some ⟨rw_, 0, none⟩) c.words.length rkw, .slice (some ⟨re, 0, none⟩) c.wear.length rke, .int .i64 c.endure, .int .i64 c.fuse, .int .u32 c.pick, .bool c.off] k t v
  have H0 := h.start (.cells #[.slice (some ⟨rw_, 0, none⟩) c.words.length rkw, .slice (some ⟨re, 0, none⟩) c.wear.length rke, .int .i64 c.endure, .int .i64 c.fuse, .int .u32 c.pick, .bool c.off] 49) (.cells #[.int .u8 k, .int .i64 t, .int .u32 v] 44) (.cells #[.slice none 0 0, .slice none 0 0, .int .i64 0, .int .i64 0, .int .u32 0, .bool false] 49)
  simp only [Rnor.rv_eq]
  go_enter Try.func25, Try.ntmps25
  go_wp2_with fail
  generalize ((w.alloc (.cells #[.slice (some ⟨rw_, 0, none⟩) c.words.length rkw, .slice (some ⟨re, 0, none⟩) c.wear.length rke, .int .i64 c.endure, .int .i64 c.fuse, .int .u32 c.pick, .bool c.off] 49)).alloc (.cells #[.int .u8 k, .int .i64 t, .int .u32 v] 44)).alloc (.cells #[.slice none 0 0, .slice none 0 0, .int .i64 0, .int .i64 0, .int .u32 0, .bool false] 49) = W at *
  have hx := Rnor.erase_x H0.ref q
  simp only [Rnor.rv_eq] at hx
  go_wp2_with (first | (go_at_call 34; refine hx.mono ?_; rintro x w1 ⟨a, kap, a2, kap2, rfl, hp⟩; have F1 := F0.below hp.below hg; obtain ⟨x0, x1, x2, x3, x4, x5, xf⟩ := cells6 F1.b0; obtain ⟨y0, y1, y2⟩ := cells3 F1.b1; obtain ⟨z0, z1, z2, z3, z4, z5, zf⟩ := cells6 F1.b2))
  have N1 := heap_alloc_new w1 (.cells #[.slice (some ⟨a, 0, none⟩) c'.words.length kap, .slice (some ⟨a2, 0, none⟩) c'.wear.length kap2, .int .i64 c'.endure, .int .i64 c'.fuse, .int .u32 c'.pick, .bool c'.off] 49)
  have F2 := F1.below (alloc1_below w1 (.cells #[.slice (some ⟨a, 0, none⟩) c'.words.length kap, .slice (some ⟨a2, 0, none⟩) c'.wear.length kap2, .int .i64 c'.endure, .int .i64 c'.fuse, .int .u32 c'.pick, .bool c'.off] 49)) hg
  have O2 := (H0.own.then hp.below).then (alloc1_below w1 (.cells #[.slice (some ⟨a, 0, none⟩) c'.words.length kap, .slice (some ⟨a2, 0, none⟩) c'.wear.length kap2, .int .i64 c'.endure, .int .i64 c'.fuse, .int .u32 c'.pick, .bool c'.off] 49))
  have R2 := hp.at_.below (alloc1_below w1 (.cells #[.slice (some ⟨a, 0, none⟩) c'.words.length kap, .slice (some ⟨a2, 0, none⟩) c'.wear.length kap2, .int .i64 c'.endure, .int .i64 c'.fuse, .int .u32 c'.pick, .bool c'.off] 49))
  have hs1 : w.heap.size + 1 + 1 < w1.heap.size := (Array.getElem?_eq_some_iff.1 F1.b2).1
  generalize hN : w1.heap.size = N at *
  generalize w1.alloc (.cells #[.slice (some ⟨a, 0, none⟩) c'.words.length kap, .slice (some ⟨a2, 0, none⟩) c'.wear.length kap2, .int .i64 c'.endure, .int .i64 c'.fuse, .int .u32 c'.pick, .bool c'.off] 49) = W2 at *
  clear x0 x1 x2 x3 x4 x5 xf y0 y1 y2 z0 z1 z2 z3 z4 z5 zf
  obtain ⟨n0, n1, n2, n3, n4, n5, nf⟩ := cells6 N1
  obtain ⟨y0, y1, y2⟩ := cells3 F2.b1
  obtain ⟨z0, z1, z2, z3, z4, z5, zf⟩ := cells6 F2.b2
  have NN := Lib.hid N1
  clear N1 hN
  have TN : ¬ Nor.Three g bw be N := by unfold Nor.Three; omega
  have d0 := drew_cell n0
  have d1 := drew_cell n1
  have d2 := drew_cell n2
  have d3 := drew_cell n3
  have d4 := drew_cell n4
  have d5 := drew_cell n5
  have d6 := drew_cell y1
  have m1 : ¬ N = w.heap.size + 1 + 1 := by omega
  have m2 : ¬ w.heap.size + 1 = w.heap.size + 1 + 1 := by omega
  clear h3 hk ht
  go_region_held3 (fun W => W.cell? ⟨N, 0, none⟩ = some (.slice (some ⟨a, 0, none⟩) c'.words.length kap) ∧ W.cell? ⟨N, 1, none⟩ = some (.slice (some ⟨a2, 0, none⟩) c'.wear.length kap2) ∧ W.cell? ⟨N, 2, none⟩ = some (.int .i64 c'.endure) ∧ W.cell? ⟨N, 3, none⟩ = some (.int .i64 c'.fuse) ∧ W.cell? ⟨N, 4, none⟩ = some (.int .u32 c'.pick) ∧ W.cell? ⟨N, 5, none⟩ = some (.bool c'.off) ∧ W.cell? ⟨w.heap.size + 1, 1, none⟩ = some (.int .i64 t)) (first | (with_reducible exact ⟨d0, d1, d2, d3, d4, d5, d6⟩) | (with_reducible exact ⟨n0, n1, n2, n3, n4, n5, y1⟩) | (with_reducible exact ⟨put6_cell m1 _ _ _ _ _ _ n0, put6_cell m1 _ _ _ _ _ _ n1, put6_cell m1 _ _ _ _ _ _ n2, put6_cell m1 _ _ _ _ _ _ n3, put6_cell m1 _ _ _ _ _ _ n4, put6_cell m1 _ _ _ _ _ _ n5, put6_cell m2 _ _ _ _ _ _ y1⟩)) (first | (go_at_call 13; refine (Nor.erase_k (O2.drewN 1) q).mono ?_; rintro x w3 ⟨rfl, O3, hK⟩; have F3 := F2.drew.keep hK hg; clear n0 n1 n2 n3 n4 n5 nf y0 y1 y2 z0 z1 z2 z3 z4 z5 zf; obtain ⟨n0, n1, n2, n3, n4, n5, nf⟩ := cells6 ((hK.block N (Array.getElem?_eq_some_iff.1 NN.out).1 TN).trans NN.out); obtain ⟨y0, y1, y2⟩ := cells3 F3.b1; obtain ⟨z0, z1, z2, z3, z4, z5, zf⟩ := cells6 F3.b2))
  have nA := not_three H0.n1 hp.la F0.kp.size hg
  have nB := not_three H0.n2 hp.lb F0.kp.size hg
  have R3 := R2.keep (S := Nor.Three g bw be) ((Keep.drew (Keep.refl _ W2)).trans hK) nA nB
  obtain ⟨P1, P2⟩ := Both.fin h.own.below.size F3 O3 R3 nA nB hg (.slice (some ⟨a, 0, none⟩) c'.words.length kap) (.slice (some ⟨a2, 0, none⟩) c'.wear.length kap2) (.int .i64 c'.endure) (.int .i64 c'.fuse) (.int .u32 c'.pick) (.bool c'.off)
  have E3 := F3.b2
  clear n0 n1 n2 n3 n4 n5 nf y0 y1 y2 z0 z1 z2 z3 z4 z5 zf d0 d1 d2 d3 d4 d5 d6
  go_wp2
  refine bodyPost_ret (Rnor.retC2 rfl _ _ (w.heap.size + 1 + 1) _ _ rfl rfl (put6 E3 _ _ _ _ _ _) rfl) rfl ⟨c', a, kap, a2, kap2, ?_, P1, P2, HWL.out⟩
  simp
set_option maxHeartbeats 1000000 in
set_option maxRecDepth 100000 in
theorem does0_c {w0 w : World} {g bw be rw_ rkw re rke : Nat} {c : Nr.C} (h : Both w0 w g bw be rw_ rkw re rke c) {k t v : Int} (hk : 0 ≤ k ∧ k < 256) (ht : -9223372036854775808 ≤ t ∧ t ≤ 9223372036854775807) (hv : 0 ≤ v ∧ v < 4294967296) (h3 : (k % 8 == 3) = false) (h4 : (k % 8 == 4) = false) (h5 : (k % 8 == 5) = false) (h6 : (k % 8 == 6) = false) (h7 : (k % 8 == 7) = false) :
    Calls Try.prog 25 #[.pointer (some ⟨g, 0, none⟩), Rnor.rv rw_ rkw re rke c, .agg #[.int .u8 k, .int .i64 t, .int .u32 v]] w fun e w' => ∃ c' a kap a2 kap2, e = .returned (.tuple #[Rnor.rv a kap a2 kap2 c', .bool true]) ∧ Both w0 w' g bw be a kap a2 kap2 c' ∧ Keep (Nor.Three g bw be) w w' ∧ c'.wear.length = c.wear.length := by
  obtain ⟨⟨e, c'⟩, q⟩ : ∃ p, Hid (Nr.programs c t v = p) := ⟨_, Lib.hid rfl⟩
  have HWL := Lib.hid (programs_wl q.out)
  have hg := h.own.chip.lt
  have F0 := Fr.start g bw be w #[.slice (some ⟨rw_, 0, none⟩) c.words.length rkw, .slice (some ⟨re, 0, none⟩) c.wear.length rke, .int .i64 c.endure, .int .i64 c.fuse, .int .u32 c.pick, .bool c.off] k t v
  have H0 := h.start (.cells #[.slice (some ⟨rw_, 0, none⟩) c.words.length rkw, .slice (some ⟨re, 0, none⟩) c.wear.length rke, .int .i64 c.endure, .int .i64 c.fuse, .int .u32 c.pick, .bool c.off] 49) (.cells #[.int .u8 k, .int .i64 t, .int .u32 v] 44) (.cells #[.slice none 0 0, .slice none 0 0, .int .i64 0, .int .i64 0, .int .u32 0, .bool false] 49)
  simp only [Rnor.rv_eq]
  go_enter Try.func25, Try.ntmps25
  go_wp2_with fail
  generalize ((w.alloc (.cells #[.slice (some ⟨rw_, 0, none⟩) c.words.length rkw, .slice (some ⟨re, 0, none⟩) c.wear.length rke, .int .i64 c.endure, .int .i64 c.fuse, .int .u32 c.pick, .bool c.off] 49)).alloc (.cells #[.int .u8 k, .int .i64 t, .int .u32 v] 44)).alloc (.cells #[.slice none 0 0, .slice none 0 0, .int .i64 0, .int .i64 0, .int .u32 0, .bool false] 49) = W at *
  have hx := Rnor.program_x H0.ref hv q
  simp only [Rnor.rv_eq] at hx
  go_wp2_with (first | (go_at_call 38; refine hx.mono ?_; rintro x w1 ⟨a, kap, a2, kap2, rfl, hp⟩; have F1 := F0.below hp.below hg; obtain ⟨x0, x1, x2, x3, x4, x5, xf⟩ := cells6 F1.b0; obtain ⟨y0, y1, y2⟩ := cells3 F1.b1; obtain ⟨z0, z1, z2, z3, z4, z5, zf⟩ := cells6 F1.b2))
  have N1 := heap_alloc_new w1 (.cells #[.slice (some ⟨a, 0, none⟩) c'.words.length kap, .slice (some ⟨a2, 0, none⟩) c'.wear.length kap2, .int .i64 c'.endure, .int .i64 c'.fuse, .int .u32 c'.pick, .bool c'.off] 49)
  have F2 := F1.below (alloc1_below w1 (.cells #[.slice (some ⟨a, 0, none⟩) c'.words.length kap, .slice (some ⟨a2, 0, none⟩) c'.wear.length kap2, .int .i64 c'.endure, .int .i64 c'.fuse, .int .u32 c'.pick, .bool c'.off] 49)) hg
  have O2 := (H0.own.then hp.below).then (alloc1_below w1 (.cells #[.slice (some ⟨a, 0, none⟩) c'.words.length kap, .slice (some ⟨a2, 0, none⟩) c'.wear.length kap2, .int .i64 c'.endure, .int .i64 c'.fuse, .int .u32 c'.pick, .bool c'.off] 49))
  have R2 := hp.at_.below (alloc1_below w1 (.cells #[.slice (some ⟨a, 0, none⟩) c'.words.length kap, .slice (some ⟨a2, 0, none⟩) c'.wear.length kap2, .int .i64 c'.endure, .int .i64 c'.fuse, .int .u32 c'.pick, .bool c'.off] 49))
  have hs1 : w.heap.size + 1 + 1 < w1.heap.size := (Array.getElem?_eq_some_iff.1 F1.b2).1
  generalize hN : w1.heap.size = N at *
  generalize w1.alloc (.cells #[.slice (some ⟨a, 0, none⟩) c'.words.length kap, .slice (some ⟨a2, 0, none⟩) c'.wear.length kap2, .int .i64 c'.endure, .int .i64 c'.fuse, .int .u32 c'.pick, .bool c'.off] 49) = W2 at *
  clear x0 x1 x2 x3 x4 x5 xf y0 y1 y2 z0 z1 z2 z3 z4 z5 zf
  obtain ⟨n0, n1, n2, n3, n4, n5, nf⟩ := cells6 N1
  obtain ⟨y0, y1, y2⟩ := cells3 F2.b1
  obtain ⟨z0, z1, z2, z3, z4, z5, zf⟩ := cells6 F2.b2
  have NN := Lib.hid N1
  clear N1 hN
  have TN : ¬ Nor.Three g bw be N := by unfold Nor.Three; omega
  have d0 := drew_cell n0
  have d1 := drew_cell n1
  have d2 := drew_cell n2
  have d3 := drew_cell n3
  have d4 := drew_cell n4
  have d5 := drew_cell n5
  have d6 := drew_cell y1
  have d7 := drew_cell y2
  have m1 : ¬ N = w.heap.size + 1 + 1 := by omega
  have m2 : ¬ w.heap.size + 1 = w.heap.size + 1 + 1 := by omega
  clear h3 h4 h5 h6 h7 hk ht
  go_region_held3 (fun W => W.cell? ⟨N, 0, none⟩ = some (.slice (some ⟨a, 0, none⟩) c'.words.length kap) ∧ W.cell? ⟨N, 1, none⟩ = some (.slice (some ⟨a2, 0, none⟩) c'.wear.length kap2) ∧ W.cell? ⟨N, 2, none⟩ = some (.int .i64 c'.endure) ∧ W.cell? ⟨N, 3, none⟩ = some (.int .i64 c'.fuse) ∧ W.cell? ⟨N, 4, none⟩ = some (.int .u32 c'.pick) ∧ W.cell? ⟨N, 5, none⟩ = some (.bool c'.off) ∧ W.cell? ⟨w.heap.size + 1, 1, none⟩ = some (.int .i64 t) ∧ W.cell? ⟨w.heap.size + 1, 2, none⟩ = some (.int .u32 v)) (first | (with_reducible exact ⟨d0, d1, d2, d3, d4, d5, d6, d7⟩) | (with_reducible exact ⟨n0, n1, n2, n3, n4, n5, y1, y2⟩) | (with_reducible exact ⟨put6_cell m1 _ _ _ _ _ _ n0, put6_cell m1 _ _ _ _ _ _ n1, put6_cell m1 _ _ _ _ _ _ n2, put6_cell m1 _ _ _ _ _ _ n3, put6_cell m1 _ _ _ _ _ _ n4, put6_cell m1 _ _ _ _ _ _ n5, put6_cell m2 _ _ _ _ _ _ y1, put6_cell m2 _ _ _ _ _ _ y2⟩)) (first | (go_at_call 14; refine (Nor.program_k (O2.drewN 1) hv.1 hv.2 q).mono ?_; rintro x w3 ⟨rfl, O3, hK⟩; have F3 := F2.drew.keep hK hg; clear n0 n1 n2 n3 n4 n5 nf y0 y1 y2 z0 z1 z2 z3 z4 z5 zf; obtain ⟨n0, n1, n2, n3, n4, n5, nf⟩ := cells6 ((hK.block N (Array.getElem?_eq_some_iff.1 NN.out).1 TN).trans NN.out); obtain ⟨y0, y1, y2⟩ := cells3 F3.b1; obtain ⟨z0, z1, z2, z3, z4, z5, zf⟩ := cells6 F3.b2))
  have nA := not_three H0.n1 hp.la F0.kp.size hg
  have nB := not_three H0.n2 hp.lb F0.kp.size hg
  have R3 := R2.keep (S := Nor.Three g bw be) ((Keep.drew (Keep.refl _ W2)).trans hK) nA nB
  obtain ⟨P1, P2⟩ := Both.fin h.own.below.size F3 O3 R3 nA nB hg (.slice (some ⟨a, 0, none⟩) c'.words.length kap) (.slice (some ⟨a2, 0, none⟩) c'.wear.length kap2) (.int .i64 c'.endure) (.int .i64 c'.fuse) (.int .u32 c'.pick) (.bool c'.off)
  have E3 := F3.b2
  clear n0 n1 n2 n3 n4 n5 nf y0 y1 y2 z0 z1 z2 z3 z4 z5 zf d0 d1 d2 d3 d4 d5 d6 d7
  go_wp2
  refine bodyPost_ret (Rnor.retC2 rfl _ _ (w.heap.size + 1 + 1) _ _ rfl rfl (put6 E3 _ _ _ _ _ _) rfl) rfl ⟨c', a, kap, a2, kap2, ?_, P1, P2, HWL.out⟩
  simp
end Does2
end Go.Proofs.Ytmaakjabjpppkaa
