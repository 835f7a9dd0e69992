/- dioptralaw02.does: acts that read, fuse, cut, and come back. -/
import Derived.Test.YtmaakjabjpppkaaDoes2
namespace Go.Proofs.Ytmaakjabjpppkaa
open Go.RowKit
set_option linter.unusedVariables false
attribute [local go_sem] max2_int min2_int max_two min_two
namespace Does2
theorem Fr.cut {w0 w W : World} {g bw be rw_ rkw re rke : Nat} {c c' : Nr.C} {k t v : Int} {x0 x1 x2 x3 x4 x5 : Value} (F : Fr g bw be w W #[x0, x1, x2, x3, x4, x5] k t v) (hg : g < w.heap.size ∧ bw < w.heap.size ∧ be < w.heap.size) (hw : w0.heap.size ≤ w.heap.size) (O : Own w0 W g bw be c') (R : Rnor.RAt W rw_ rkw re rke c) (q : Hid (Nr.cut c = c')) :
    Fr g bw be w (W.setCell ⟨w.heap.size, 5, none⟩ (.bool true)) #[x0, x1, x2, x3, x4, .bool true] k t v ∧ Own w0 (W.setCell ⟨w.heap.size, 5, none⟩ (.bool true)) g bw be c' ∧ Rnor.RAt (W.setCell ⟨w.heap.size, 5, none⟩ (.bool true)) rw_ rkw re rke c' := by
  have K1 : Keep (fun r => r = w.heap.size) W (W.setCell ⟨w.heap.size, 5, none⟩ (.bool true)) := (Keep.refl (fun r => r = w.heap.size) W).setCell (p := ⟨w.heap.size, 5, none⟩) (.inl rfl) _
  have ok := Nr.cut_ok R.ok
  rw [q.out] at ok
  refine ⟨⟨heap_set F.b0 5 _, (set_away (by omega) _).trans F.b1, (set_away (by omega) _).trans F.b2, ?_⟩, ⟨O.chip.keep K1 (by omega) (by omega) (by omega), O.lg, O.lw, O.le, ?_⟩, ?_⟩
  · have B := F.kp
    exact ⟨K1.os.trans B.os, K1.tape.trans B.tape, K1.output.trans B.output, Nat.le_trans B.size K1.size, fun r hr hn => (K1.block r (Nat.lt_of_lt_of_le hr B.size) (by omega)).trans (B.block r hr hn)⟩
  · exact ⟨K1.os.trans O.below.os, K1.tape.trans O.below.tape, K1.output.trans O.below.output, Nat.le_trans O.below.size K1.size, fun r hr => (K1.block r (Nat.lt_of_lt_of_le hr O.below.size) (by omega)).trans (O.below.block r hr)⟩
  · have R' := R.keep K1 (by
      intro d
      obtain ⟨cur, ea, hc⟩ := R.words
      rw [d, F.b0] at ea
      cases ea) (by
      intro d
      obtain ⟨cur, ea, hc⟩ := R.wear
      rw [d, F.b0] at ea
      cases ea)
    have q' := q.out
    subst q'
    exact ⟨ok, R'.kw, R'.ke, R'.words, R'.wear⟩
set_option maxHeartbeats 1000000 in
set_option maxRecDepth 100000 in
theorem does4_c {w0 w : World} {g bw be rw_ rkw re rke : Nat} {c : Nr.C} (h : Both w0 w g bw be rw_ rkw re rke c) {k t v : Int} (hk : 0 ≤ k ∧ k < 256) (ht : -9223372036854775808 ≤ t ∧ t ≤ 9223372036854775807) (hv : 0 ≤ v ∧ v < 4294967296) (h3 : (k % 8 == 3) = false) (h4 : k % 8 = 4) :
    Calls Try.prog 25 #[.pointer (some ⟨g, 0, none⟩), Rnor.rv rw_ rkw re rke c, .agg #[.int .u8 k, .int .i64 t, .int .u32 v]] w fun e w' => ∃ c' a kap a2 kap2, e = .returned (.tuple #[Rnor.rv a kap a2 kap2 c', .bool true]) ∧ Both w0 w' g bw be a kap a2 kap2 c' ∧ Keep (Nor.Three g bw be) w w' ∧ c'.wear.length = c.wear.length := by
  obtain ⟨⟨u, e⟩, q⟩ : ∃ p, Hid (Nr.reads c t = p) := ⟨_, Lib.hid rfl⟩
  have hg := h.own.chip.lt
  have F0 := Fr.start g bw be w #[.slice (some ⟨rw_, 0, none⟩) c.words.length rkw, .slice (some ⟨re, 0, none⟩) c.wear.length rke, .int .i64 c.endure, .int .i64 c.fuse, .int .u32 c.pick, .bool c.off] k t v
  have H0 := h.start (.cells #[.slice (some ⟨rw_, 0, none⟩) c.words.length rkw, .slice (some ⟨re, 0, none⟩) c.wear.length rke, .int .i64 c.endure, .int .i64 c.fuse, .int .u32 c.pick, .bool c.off] 49) (.cells #[.int .u8 k, .int .i64 t, .int .u32 v] 44) (.cells #[.slice none 0 0, .slice none 0 0, .int .i64 0, .int .i64 0, .int .u32 0, .bool false] 49)
  simp only [Rnor.rv_eq]
  go_enter Try.func25, Try.ntmps25
  go_wp2_with fail
  generalize ((w.alloc (.cells #[.slice (some ⟨rw_, 0, none⟩) c.words.length rkw, .slice (some ⟨re, 0, none⟩) c.wear.length rke, .int .i64 c.endure, .int .i64 c.fuse, .int .u32 c.pick, .bool c.off] 49)).alloc (.cells #[.int .u8 k, .int .i64 t, .int .u32 v] 44)).alloc (.cells #[.slice none 0 0, .slice none 0 0, .int .i64 0, .int .i64 0, .int .u32 0, .bool false] 49) = W at *
  have hx := Rnor.read_x H0.ref q
  simp only [Rnor.rv_eq] at hx
  obtain ⟨x0, x1, x2, x3, x4, x5, xf⟩ := cells6 F0.b0
  obtain ⟨y0, y1, y2⟩ := cells3 F0.b1
  obtain ⟨z0, z1, z2, z3, z4, z5, zf⟩ := cells6 F0.b2
  go_wp2_with (first | (go_at_call 16; refine (Nor.read_o H0.own q).mono ?_; rintro x w1 ⟨rfl, rfl⟩) | (go_at_call 35; refine hx.mono ?_; rintro x w1 ⟨rfl, hb⟩; have F1 := F0.below hb hg; clear x0 x1 x2 x3 x4 x5 xf y0 y1 y2 z0 z1 z2 z3 z4 z5 zf; obtain ⟨x0, x1, x2, x3, x4, x5, xf⟩ := cells6 F1.b0; obtain ⟨y0, y1, y2⟩ := cells3 F1.b1; obtain ⟨z0, z1, z2, z3, z4, z5, zf⟩ := cells6 F1.b2))
  obtain ⟨P1, P2⟩ := Both.fin h.own.below.size F1 (H0.own.then hb) (H0.ref.below hb) H0.n1 H0.n2 hg (.slice (some ⟨rw_, 0, none⟩) c.words.length rkw) (.slice (some ⟨re, 0, none⟩) c.wear.length rke) (.int .i64 c.endure) (.int .i64 c.fuse) (.int .u32 c.pick) (.bool c.off)
  clear x0 x1 x2 x3 x4 x5 xf y0 y1 y2 z0 z1 z2 z3 z4 z5 zf
  refine bodyPost_ret (Rnor.retC2 rfl _ _ (w.heap.size + 1 + 1) _ _ rfl rfl (put6 F1.b2 _ _ _ _ _ _) rfl) rfl ⟨c, rw_, rkw, re, rke, ?_, P1, P2, rfl⟩
  simp
set_option maxHeartbeats 1000000 in
set_option maxRecDepth 100000 in
theorem does5_c {w0 w : World} {g bw be rw_ rkw re rke : Nat} {c : Nr.C} (h : Both w0 w g bw be rw_ rkw re rke c) {k t v : Int} (hk : 0 ≤ k ∧ k < 256) (ht : -9223372036854775808 ≤ t ∧ t ≤ 9223372036854775807) (hv : 0 ≤ v ∧ v < 4294967296) (h3 : (k % 8 == 3) = false) (h4 : (k % 8 == 4) = false) (h5 : k % 8 = 5) :
    Calls Try.prog 25 #[.pointer (some ⟨g, 0, none⟩), Rnor.rv rw_ rkw re rke c, .agg #[.int .u8 k, .int .i64 t, .int .u32 v]] w fun e w' => ∃ c' a kap a2 kap2, e = .returned (.tuple #[Rnor.rv a kap a2 kap2 c', .bool true]) ∧ Both w0 w' g bw be a kap a2 kap2 c' ∧ Keep (Nor.Three g bw be) w w' ∧ c'.wear.length = c.wear.length := by
  obtain ⟨c', q⟩ : ∃ p, Hid (Nr.fuse c t v = p) := ⟨_, Lib.hid rfl⟩
  have hg := h.own.chip.lt
  have F0 := Fr.start g bw be w #[.slice (some ⟨rw_, 0, none⟩) c.words.length rkw, .slice (some ⟨re, 0, none⟩) c.wear.length rke, .int .i64 c.endure, .int .i64 c.fuse, .int .u32 c.pick, .bool c.off] k t v
  have H0 := h.start (.cells #[.slice (some ⟨rw_, 0, none⟩) c.words.length rkw, .slice (some ⟨re, 0, none⟩) c.wear.length rke, .int .i64 c.endure, .int .i64 c.fuse, .int .u32 c.pick, .bool c.off] 49) (.cells #[.int .u8 k, .int .i64 t, .int .u32 v] 44) (.cells #[.slice none 0 0, .slice none 0 0, .int .i64 0, .int .i64 0, .int .u32 0, .bool false] 49)
  simp only [Rnor.rv_eq]
  go_enter Try.func25, Try.ntmps25
  go_wp2_with fail
  generalize ((w.alloc (.cells #[.slice (some ⟨rw_, 0, none⟩) c.words.length rkw, .slice (some ⟨re, 0, none⟩) c.wear.length rke, .int .i64 c.endure, .int .i64 c.fuse, .int .u32 c.pick, .bool c.off] 49)).alloc (.cells #[.int .u8 k, .int .i64 t, .int .u32 v] 44)).alloc (.cells #[.slice none 0 0, .slice none 0 0, .int .i64 0, .int .i64 0, .int .u32 0, .bool false] 49) = W at *
  obtain ⟨x0, x1, x2, x3, x4, x5, xf⟩ := cells6 F0.b0
  obtain ⟨y0, y1, y2⟩ := cells3 F0.b1
  obtain ⟨z0, z1, z2, z3, z4, z5, zf⟩ := cells6 F0.b2
  go_wp2_with (first | (go_at_call 22; refine (Nor.fuse_k H0.own (Lib.hid ht.2) hv.1 hv.2 q).mono ?_; rintro x w1 ⟨rfl, O1, hK⟩; have F1 := F0.keep hK hg; have R1 := H0.ref.keep hK H0.n1 H0.n2; clear x0 x1 x2 x3 x4 x5 xf y0 y1 y2 z0 z1 z2 z3 z4 z5 zf; obtain ⟨x0, x1, x2, x3, x4, x5, xf⟩ := cells6 F1.b0; obtain ⟨y0, y1, y2⟩ := cells3 F1.b1; obtain ⟨z0, z1, z2, z3, z4, z5, zf⟩ := cells6 F1.b2) | (go_at_call 36; have hx := Rnor.fuse_x R1 ht.2 hv q; simp only [Rnor.rv_eq] at hx; refine hx.mono ?_; rintro x w2 ⟨a, kap, a2, kap2, rfl, hp⟩; have F2 := F1.below hp.below hg; clear x0 x1 x2 x3 x4 x5 xf y0 y1 y2 z0 z1 z2 z3 z4 z5 zf; obtain ⟨x0, x1, x2, x3, x4, x5, xf⟩ := cells6 F2.b0; obtain ⟨y0, y1, y2⟩ := cells3 F2.b1; obtain ⟨z0, z1, z2, z3, z4, z5, zf⟩ := cells6 F2.b2))
  have nA := not_three H0.n1 hp.la F1.kp.size hg
  have nB := not_three H0.n2 hp.lb F1.kp.size hg
  obtain ⟨P1, P2⟩ := Both.fin h.own.below.size F2 (O1.then hp.below) hp.at_ nA nB hg (.slice (some ⟨a, 0, none⟩) c'.words.length kap) (.slice (some ⟨a2, 0, none⟩) c'.wear.length kap2) (.int .i64 c'.endure) (.int .i64 c'.fuse) (.int .u32 c'.pick) (.bool c'.off)
  clear x0 x1 x2 x3 x4 x5 xf y0 y1 y2 z0 z1 z2 z3 z4 z5 zf
  refine bodyPost_ret (Rnor.retC2 rfl _ _ (w.heap.size + 1 + 1) _ _ rfl rfl (put6 F2.b2 _ _ _ _ _ _) rfl) rfl ⟨c', a, kap, a2, kap2, ?_, P1, P2, by rw [← q.out]; rfl⟩
  simp
set_option maxHeartbeats 1000000 in
set_option maxRecDepth 100000 in
theorem does6_c {w0 w : World} {g bw be rw_ rkw re rke : Nat} {c : Nr.C} (h : Both w0 w g bw be rw_ rkw re rke c) {k t v : Int} (hk : 0 ≤ k ∧ k < 256) (ht : -9223372036854775808 ≤ t ∧ t ≤ 9223372036854775807) (hv : 0 ≤ v ∧ v < 4294967296) (h3 : (k % 8 == 3) = false) (h4 : (k % 8 == 4) = false) (h5 : (k % 8 == 5) = false) (h6 : k % 8 = 6) :
    Calls Try.prog 25 #[.pointer (some ⟨g, 0, none⟩), Rnor.rv rw_ rkw re rke c, .agg #[.int .u8 k, .int .i64 t, .int .u32 v]] w fun e w' => ∃ c' a kap a2 kap2, e = .returned (.tuple #[Rnor.rv a kap a2 kap2 c', .bool true]) ∧ Both w0 w' g bw be a kap a2 kap2 c' ∧ Keep (Nor.Three g bw be) w w' ∧ c'.wear.length = c.wear.length := by
  obtain ⟨c', q⟩ : ∃ p, Hid (Nr.cut c = p) := ⟨_, Lib.hid rfl⟩
  have hg := h.own.chip.lt
  have F0 := Fr.start g bw be w #[.slice (some ⟨rw_, 0, none⟩) c.words.length rkw, .slice (some ⟨re, 0, none⟩) c.wear.length rke, .int .i64 c.endure, .int .i64 c.fuse, .int .u32 c.pick, .bool c.off] k t v
  have H0 := h.start (.cells #[.slice (some ⟨rw_, 0, none⟩) c.words.length rkw, .slice (some ⟨re, 0, none⟩) c.wear.length rke, .int .i64 c.endure, .int .i64 c.fuse, .int .u32 c.pick, .bool c.off] 49) (.cells #[.int .u8 k, .int .i64 t, .int .u32 v] 44) (.cells #[.slice none 0 0, .slice none 0 0, .int .i64 0, .int .i64 0, .int .u32 0, .bool false] 49)
  simp only [Rnor.rv_eq]
  go_enter Try.func25, Try.ntmps25
  go_wp2_with fail
  generalize ((w.alloc (.cells #[.slice (some ⟨rw_, 0, none⟩) c.words.length rkw, .slice (some ⟨re, 0, none⟩) c.wear.length rke, .int .i64 c.endure, .int .i64 c.fuse, .int .u32 c.pick, .bool c.off] 49)).alloc (.cells #[.int .u8 k, .int .i64 t, .int .u32 v] 44)).alloc (.cells #[.slice none 0 0, .slice none 0 0, .int .i64 0, .int .i64 0, .int .u32 0, .bool false] 49) = W at *
  obtain ⟨x0, x1, x2, x3, x4, x5, xf⟩ := cells6 F0.b0
  obtain ⟨y0, y1, y2⟩ := cells3 F0.b1
  obtain ⟨z0, z1, z2, z3, z4, z5, zf⟩ := cells6 F0.b2
  go_wp2_with (first | (go_at_call 26; refine (Nor.cut_k H0.own q).mono ?_; rintro x w1 ⟨rfl, O1, hK⟩; have F1 := F0.keep hK hg; have R1 := H0.ref.keep hK H0.n1 H0.n2; clear x0 x1 x2 x3 x4 x5 xf y0 y1 y2 z0 z1 z2 z3 z4 z5 zf; obtain ⟨x0, x1, x2, x3, x4, x5, xf⟩ := cells6 F1.b0; obtain ⟨y0, y1, y2⟩ := cells3 F1.b1; obtain ⟨z0, z1, z2, z3, z4, z5, zf⟩ := cells6 F1.b2))
  obtain ⟨F2, O2, R2⟩ := Fr.cut F1 hg h.own.below.size O1 R1 q
  obtain ⟨P1, P2⟩ := Both.fin h.own.below.size F2 O2 R2 H0.n1 H0.n2 hg (.slice (some ⟨rw_, 0, none⟩) c.words.length rkw) (.slice (some ⟨re, 0, none⟩) c.wear.length rke) (.int .i64 c.endure) (.int .i64 c.fuse) (.int .u32 c.pick) (.bool true)
  clear x0 x1 x2 x3 x4 x5 xf y0 y1 y2 z0 z1 z2 z3 z4 z5 zf
  refine bodyPost_ret (Rnor.retC2 rfl _ _ (w.heap.size + 1 + 1) _ _ rfl rfl (put6 F2.b2 _ _ _ _ _ _) rfl) rfl ⟨c', rw_, rkw, re, rke, ?_, P1, P2, by rw [← q.out]; rfl⟩
  have q' := q.out
  subst q'
  rfl
set_option maxHeartbeats 1000000 in
set_option maxRecDepth 100000 in
theorem does7_c {w0 w : World} {g bw be rw_ rkw re rke : Nat} {c : Nr.C} (h : Both w0 w g bw be rw_ rkw re rke c) {k t v : Int} (hk : 0 ≤ k ∧ k < 256) (ht : -9223372036854775808 ≤ t ∧ t ≤ 9223372036854775807) (hv : 0 ≤ v ∧ v < 4294967296) (h3 : (k % 8 == 3) = false) (h4 : (k % 8 == 4) = false) (h5 : (k % 8 == 5) = false) (h6 : (k % 8 == 6) = false) (h7 : k % 8 = 7) :
    Calls Try.prog 25 #[.pointer (some ⟨g, 0, none⟩), Rnor.rv rw_ rkw re rke c, .agg #[.int .u8 k, .int .i64 t, .int .u32 v]] w fun e w' => ∃ c' a kap a2 kap2, e = .returned (.tuple #[Rnor.rv a kap a2 kap2 c', .bool true]) ∧ Both w0 w' g bw be a kap a2 kap2 c' ∧ Keep (Nor.Three g bw be) w w' ∧ c'.wear.length = c.wear.length := by
  obtain ⟨c', q⟩ : ∃ p, Hid (Nr.on c = p) := ⟨_, Lib.hid rfl⟩
  have hg := h.own.chip.lt
  have F0 := Fr.start g bw be w #[.slice (some ⟨rw_, 0, none⟩) c.words.length rkw, .slice (some ⟨re, 0, none⟩) c.wear.length rke, .int .i64 c.endure, .int .i64 c.fuse, .int .u32 c.pick, .bool c.off] k t v
  have H0 := h.start (.cells #[.slice (some ⟨rw_, 0, none⟩) c.words.length rkw, .slice (some ⟨re, 0, none⟩) c.wear.length rke, .int .i64 c.endure, .int .i64 c.fuse, .int .u32 c.pick, .bool c.off] 49) (.cells #[.int .u8 k, .int .i64 t, .int .u32 v] 44) (.cells #[.slice none 0 0, .slice none 0 0, .int .i64 0, .int .i64 0, .int .u32 0, .bool false] 49)
  simp only [Rnor.rv_eq]
  go_enter Try.func25, Try.ntmps25
  go_wp2_with fail
  generalize ((w.alloc (.cells #[.slice (some ⟨rw_, 0, none⟩) c.words.length rkw, .slice (some ⟨re, 0, none⟩) c.wear.length rke, .int .i64 c.endure, .int .i64 c.fuse, .int .u32 c.pick, .bool c.off] 49)).alloc (.cells #[.int .u8 k, .int .i64 t, .int .u32 v] 44)).alloc (.cells #[.slice none 0 0, .slice none 0 0, .int .i64 0, .int .i64 0, .int .u32 0, .bool false] 49) = W at *
  obtain ⟨x0, x1, x2, x3, x4, x5, xf⟩ := cells6 F0.b0
  obtain ⟨y0, y1, y2⟩ := cells3 F0.b1
  obtain ⟨z0, z1, z2, z3, z4, z5, zf⟩ := cells6 F0.b2
  go_wp2_with (first | (go_at_call 23; refine (Nor.on_k H0.own q).mono ?_; rintro x w1 ⟨rfl, O1, hK⟩; have F1 := F0.keep hK hg; have R1 := H0.ref.keep hK H0.n1 H0.n2; clear x0 x1 x2 x3 x4 x5 xf y0 y1 y2 z0 z1 z2 z3 z4 z5 zf; obtain ⟨x0, x1, x2, x3, x4, x5, xf⟩ := cells6 F1.b0; obtain ⟨y0, y1, y2⟩ := cells3 F1.b1; obtain ⟨z0, z1, z2, z3, z4, z5, zf⟩ := cells6 F1.b2) | (go_at_call 37; have hx := Rnor.on_x R1 q; simp only [Rnor.rv_eq] at hx; refine hx.mono ?_; rintro x w2 ⟨a, kap, a2, kap2, rfl, hp⟩; have F2 := F1.below hp.below hg; clear x0 x1 x2 x3 x4 x5 xf y0 y1 y2 z0 z1 z2 z3 z4 z5 zf; obtain ⟨x0, x1, x2, x3, x4, x5, xf⟩ := cells6 F2.b0; obtain ⟨y0, y1, y2⟩ := cells3 F2.b1; obtain ⟨z0, z1, z2, z3, z4, z5, zf⟩ := cells6 F2.b2))
  have nA := not_three H0.n1 hp.la F1.kp.size hg
  have nB := not_three H0.n2 hp.lb F1.kp.size hg
  obtain ⟨P1, P2⟩ := Both.fin h.own.below.size F2 (O1.then hp.below) hp.at_ nA nB hg (.slice (some ⟨a, 0, none⟩) c'.words.length kap) (.slice (some ⟨a2, 0, none⟩) c'.wear.length kap2) (.int .i64 c'.endure) (.int .i64 c'.fuse) (.int .u32 c'.pick) (.bool c'.off)
  clear x0 x1 x2 x3 x4 x5 xf y0 y1 y2 z0 z1 z2 z3 z4 z5 zf
  refine bodyPost_ret (Rnor.retC2 rfl _ _ (w.heap.size + 1 + 1) _ _ rfl rfl (put6 F2.b2 _ _ _ _ _ _) rfl) rfl ⟨c', a, kap, a2, kap2, ?_, P1, P2, by rw [← q.out]; rfl⟩
  simp
theorem does_c {w0 w : World} {g bw be rw_ rkw re rke : Nat} {c : Nr.C} (h : Both w0 w g bw be rw_ rkw re rke c) {k t v : Int} (hk : 0 ≤ k ∧ k < 256) (ht : -9223372036854775808 ≤ t ∧ t ≤ 9223372036854775807) (hv : 0 ≤ v ∧ v < 4294967296) :
    Calls Try.prog 25 #[.pointer (some ⟨g, 0, none⟩), Rnor.rv rw_ rkw re rke c, .agg #[.int .u8 k, .int .i64 t, .int .u32 v]] w fun e w' => ∃ c' a kap a2 kap2, e = .returned (.tuple #[Rnor.rv a kap a2 kap2 c', .bool true]) ∧ Both w0 w' g bw be a kap a2 kap2 c' ∧ Keep (Nor.Three g bw be) w w' ∧ c'.wear.length = c.wear.length := by
  by_cases h3 : k % 8 = 3
  · exact does3_c h hk ht hv h3
  by_cases h4 : k % 8 = 4
  · exact does4_c h hk ht hv (by simpa using h3) h4
  by_cases h5 : k % 8 = 5
  · exact does5_c h hk ht hv (by simpa using h3) (by simpa using h4) h5
  by_cases h6 : k % 8 = 6
  · exact does6_c h hk ht hv (by simpa using h3) (by simpa using h4) (by simpa using h5) h6
  by_cases h7 : k % 8 = 7
  · exact does7_c h hk ht hv (by simpa using h3) (by simpa using h4) (by simpa using h5) (by simpa using h6) h7
  exact does0_c h hk ht hv (by simpa using h3) (by simpa using h4) (by simpa using h5) (by simpa using h6) (by simpa using h7)
end Does2
end Go.Proofs.Ytmaakjabjpppkaa
