/- dioptralaw09.alive. -/
import Derived.Test.YtlfabajceflpdaaRef94
namespace Go.Proofs.Ytlfabajceflpdaa
open Go.RowKit Md
set_option linter.unusedVariables false
attribute [local go_sem] max2_int min2_int max_two min_two Sec.eqx Sec.guardx
/-- Two sectors in a new block. -/
theorem lv_two (w : World) (u v : V) : Lv (w.alloc (.cells #[.int .u32 u.a, .int .u32 u.b, .int .u32 u.c, .int .u32 u.d, .int .u32 v.a, .int .u32 v.b, .int .u32 v.c, .int .u32 v.d] 24)) (some ⟨w.heap.size, 0, none⟩) 2 2 [u, v] := by
  have h := heap_alloc_new w (.cells #[.int .u32 u.a, .int .u32 u.b, .int .u32 u.c, .int .u32 u.d, .int .u32 v.a, .int .u32 v.b, .int .u32 v.c, .int .u32 v.d] 24)
  refine ⟨rfl, Nat.le_refl _, .inr ⟨_, rfl, fun i hi => ⟨w.heap.size, 0, rfl, ?_⟩⟩⟩
  have : i = 0 ∨ i = 1 := by omega
  rcases this with rfl | rfl
  · constructor <;> (simp only [World.cell?, h]; rfl)
  · constructor <;> (simp only [World.cell?, h]; rfl)
theorem lv_twoG {w : World} {g : Nat} (hg : w.heap.size = g) (u v : V) : Lv (w.alloc (.cells #[.int .u32 u.a, .int .u32 u.b, .int .u32 u.c, .int .u32 u.d, .int .u32 v.a, .int .u32 v.b, .int .u32 v.c, .int .u32 v.d] 24)) (some ⟨g, 0, none⟩) 2 2 [u, v] := hg ▸ lv_two w u v
namespace Live9
def v1 : V := ⟨1, 0, 0, 0⟩
def v7 : V := ⟨7, 0, 0, 0⟩
def s0 : St := ⟨[V.z, V.z], true, 1, v7⟩
theorem n2 : Md.new 2 = calm [V.z, V.z] := by decide +kernel
theorem b1 : Md.begun (calm [V.z, V.z]) 1 v7 = s0 := by decide +kernel
theorem m1 : may s0 [V.z, v7] = true := by decide +kernel
theorem m2 : may s0 [V.z, V.z] = true := by decide +kernel
theorem m3 : may s0 [v7, V.z] = false := by decide +kernel
theorem d1 : Md.done s0 0 v1 = calm [v1, V.z] := by decide +kernel
theorem new2 (w : World) : Calls Try.prog 19 #[.int .i64 2] w fun e w' => ∃ a cap, e = .returned (.agg #[.slice a 2 cap, .bool false, .int .i64 0, .int .u32 0, .int .u32 0, .int .u32 0, .int .u32 0]) ∧ Lv w' a 2 cap [V.z, V.z] ∧ Below w.heap.size w w' := by
  refine (Mod.new_c (w := w) 2).mono ?_
  rintro e w' ⟨a, n, cap, rfl, h1, h2, h3⟩
  rw [n2] at h2 ⊢
  obtain rfl : n = 2 := h2.len.symm
  exact ⟨a, cap, rfl, h2, h3⟩
theorem begun2 {w : World} {a : Option Addr} {cap : Nat} (h : Lv w a 2 cap [V.z, V.z]) : Calls Try.prog 15 #[.agg #[.slice a 2 cap, .bool false, .int .i64 0, .int .u32 0, .int .u32 0, .int .u32 0, .int .u32 0], .int .i64 1, .agg #[.int .u32 7, .int .u32 0, .int .u32 0, .int .u32 0]] w fun e w' => e = .returned (.agg #[.slice a 2 cap, .bool true, .int .i64 1, .int .u32 7, .int .u32 0, .int .u32 0, .int .u32 0]) ∧ Below w.heap.size w w' := by
  have := Mod.begun_c (s := calm [V.z, V.z]) h (by decide) 1 v7
  rw [b1] at this
  exact this
theorem seen2 {w : World} {a b : Option Addr} {cap kap : Nat} (h : Lv w a 2 cap [V.z, V.z]) (h2 : Lv w b 2 kap [V.z, v7]) : Calls Try.prog 10 #[.agg #[.slice a 2 cap, .bool true, .int .i64 1, .int .u32 7, .int .u32 0, .int .u32 0, .int .u32 0], .slice b 2 kap] w fun e w' => ∃ a' kap', e = .returned (.tuple #[.agg #[.slice a' 2 kap', .bool false, .int .i64 0, .int .u32 0, .int .u32 0, .int .u32 0, .int .u32 0], .bool true]) ∧ Lv w' a' 2 kap' [V.z, v7] ∧ Below w.heap.size w w' :=
  Mod.seen_yes (s := s0) h h2 (by decide) (by decide) m1
theorem may2 {l : List V} {q : Bool} (hq : may s0 l = q) {w : World} {a b : Option Addr} {cap kap : Nat} (h : Lv w a 2 cap [V.z, V.z]) (h2 : Lv w b 2 kap l) : Calls Try.prog 17 #[.agg #[.slice a 2 cap, .bool true, .int .i64 1, .int .u32 7, .int .u32 0, .int .u32 0, .int .u32 0], .slice b 2 kap] w fun e w' => e = .returned (.bool q) ∧ Below w.heap.size w w' := by
  have := Mod.may_c (s := s0) h h2 (by decide) (by decide)
  rw [hq] at this
  exact this
theorem done2 {w : World} {a : Option Addr} {cap : Nat} (h : Lv w a 2 cap [V.z, V.z]) : Calls Try.prog 13 #[.agg #[.slice a 2 cap, .bool true, .int .i64 1, .int .u32 7, .int .u32 0, .int .u32 0, .int .u32 0], .int .i64 0, .agg #[.int .u32 1, .int .u32 0, .int .u32 0, .int .u32 0]] w fun e w' => ∃ a' kap', e = .returned (.agg #[.slice a' 2 kap', .bool false, .int .i64 0, .int .u32 0, .int .u32 0, .int .u32 0, .int .u32 0]) ∧ Below w.heap.size w w' := by
  have := Mod.done_c (s := s0) h (by decide) 0 v1
  rw [d1] at this
  refine this.mono ?_
  rintro e w' ⟨a', kap', rfl, _, h3⟩
  exact ⟨a', kap', rfl, h3⟩
set_option maxHeartbeats 1000000 in
set_option maxRecDepth 100000 in
theorem alive_c (w : World) : Calls Try.prog 9 #[] w fun e w' => e = .returned (.bool true) ∧ Below w.heap.size w w' := by
  have hN := new2 w
  have hM1 := @may2 _ _ m2
  have hM2 := @may2 _ _ m1
  have hM3 := @may2 _ _ m3
  have hfm := fieldM
  go_enter Try.func9, Try.ntmps9
  go_wp2_with (first | (go_at_call 19; refine hN.mono ?_; rintro e w1 ⟨a, cap, rfl, La, B⟩; clear hN) | (go_at_call 15; refine (begun2 La).mono ?_; rintro e w2 ⟨rfl, b6⟩; replace La := La.below b6; replace B := Below.then B b6; clear b6) | (go_at_call 10; refine (seen2 (La.below (alloc2_below _ _ _)) (lv_twoG (by simp) V.z v7)).mono ?_; rintro e w3 ⟨a', kap', rfl, Lt, b5⟩; obtain ⟨Es, _, b6⟩ := alloc2_then b5; replace La := La.below b6; replace B := Below.then B b6; obtain ⟨x0, x1, x2, x3, x4, x5, x6, x7⟩ := cells7 Es; have X0 := fun o => Lib.cell?_alloc_some o x0; have X1 := fun o => Lib.cell?_alloc_some o x1; have X2 := fun o => Lib.cell?_alloc_some o x2; have X3 := fun o => Lib.cell?_alloc_some o x3; have X4 := fun o => Lib.cell?_alloc_some o x4; have X5 := fun o => Lib.cell?_alloc_some o x5; have X6 := fun o => Lib.cell?_alloc_some o x6; replace Es := Lib.hid Es; clear b6 b5) | (go_at_call 17; refine (hM1 (La.below (alloc2_below _ _ _)) (lv_twoG (by simp) V.z V.z)).mono ?_; rintro e w4 ⟨rfl, b5⟩; clear hM1; obtain ⟨Et, _, b6⟩ := alloc2_then b5; clear b5; replace Es := Lib.hid ((b6.block _ (Array.getElem?_eq_some_iff.1 Es.out).1).trans Es.out); replace La := La.below b6; replace Lt := Lt.below b6; replace B := Below.then B b6; clear x0 x1 x2 x3 x4 x5 x6 x7 X0 X1 X2 X3 X4 X5 X6 b6; obtain ⟨x0, x1, x2, x3, x4, x5, x6, x7⟩ := cells7 Es.out; obtain ⟨y0, y1, y2, y3, y4, y5, y6, y7⟩ := cells7 Et; replace Et := Lib.hid Et) | (go_at_call 17; refine (hM2 (La.below (alloc1_below _ _)) (lv_twoG (by simp) V.z v7)).mono ?_; rintro e w5 ⟨rfl, b5⟩; clear hM2; obtain ⟨_, b6⟩ := alloc1_then b5; clear b5; replace Es := Lib.hid ((b6.block _ (Array.getElem?_eq_some_iff.1 Es.out).1).trans Es.out); replace Et := Lib.hid ((b6.block _ (Array.getElem?_eq_some_iff.1 Et.out).1).trans Et.out); replace La := La.below b6; replace Lt := Lt.below b6; replace B := Below.then B b6; clear x0 x1 x2 x3 x4 x5 x6 x7 y0 y1 y2 y3 y4 y5 y6 y7; obtain ⟨x0, x1, x2, x3, x4, x5, x6, x7⟩ := cells7 Es.out; obtain ⟨y0, y1, y2, y3, y4, y5, y6, y7⟩ := cells7 Et.out; clear b6) | (go_at_call 17; refine (hM3 (La.below (alloc1_below _ _)) (lv_twoG (by simp) v7 V.z)).mono ?_; rintro e w6 ⟨rfl, b5⟩; clear hM3; obtain ⟨_, b6⟩ := alloc1_then b5; clear b5; replace Es := Lib.hid ((b6.block _ (Array.getElem?_eq_some_iff.1 Es.out).1).trans Es.out); replace Et := Lib.hid ((b6.block _ (Array.getElem?_eq_some_iff.1 Et.out).1).trans Et.out); replace La := La.below b6; replace Lt := Lt.below b6; replace B := Below.then B b6; clear x0 x1 x2 x3 x4 x5 x6 x7 y0 y1 y2 y3 y4 y5 y6 y7; obtain ⟨x0, x1, x2, x3, x4, x5, x6, x7⟩ := cells7 Es.out; obtain ⟨y0, y1, y2, y3, y4, y5, y6, y7⟩ := cells7 Et.out; clear b6; obtain ⟨bt, ft, rfl, vt⟩ := Lt.at_ (show 1 < 2 by decide); have ct : w6.cell? ⟨bt, ft + 4, none⟩ = some (.int .u32 7) := (vt 1 (by decide)).c0; clear vt) | (go_at_call 13; refine (done2 La).mono ?_; rintro e w7 ⟨a7, k7, rfl, b7⟩; replace B := Below.then B b7; clear b7))
  go_ret
  exact ⟨rfl, B⟩
end Live9
end Go.Proofs.Ytlfabajceflpdaa
