/- dioptralaw05.alive. -/
import Derived.Test.YtfghlfolejpjjaaDrvO
import Derived.Test.YtfghlfolejpjjaaDead
namespace Go.Proofs.Ytfghlfolejpjjaa
open Go.RowKit
set_option linter.unusedVariables false
attribute [local go_sem] max2_int min2_int max_two min_two
namespace Drv
def d0 : Cf.Fl := Cf.new (Nr.new 2 1)
def d1 : Cf.Fl := (Cf.pws d0 5 [7, 8]).2.2
def d2 : Cf.Fl := { d1 with mode := 0 }
def d3 : Cf.Fl := (Cf.ew d2 0).2.2
def d4 : Cf.Fl := (Cf.ew d3 0).2.2
theorem dp1 : (Cf.pws d0 5 [7, 8]).1 = 0 := by decide +kernel
theorem dt1 : (Cf.pws d0 5 [7, 8]).2.1 = 6 := by decide +kernel
theorem de3 : (Cf.ew d2 0).1 = 0 := by decide +kernel
theorem dt3 : (Cf.ew d2 0).2.1 = 20 := by decide +kernel
theorem de4 : (Cf.ew d3 0).1 = 5 := by decide +kernel
theorem dt4 : (Cf.ew d3 0).2.1 = 20 := by decide +kernel
theorem dl1 : d1.c.words.length = 128 := by decide +kernel
theorem do1 : d1.c.off = false := by decide +kernel
theorem dw4 : Nr.worn d4.c 0 = 1 := by decide +kernel
theorem dz : d1.c.words.getD 5 0 = 7 ∧ d1.c.words.getD 6 0 = 8 ∧ d1.c.words.getD 7 0 = 4294967295 := by decide +kernel
theorem calm0 : Cf.Calm d0 := ⟨rfl, rfl, rfl⟩
theorem calm1 : Cf.Calm d1 := Cf.pwN_calm calm0 _ _ _
theorem calm2 : Cf.Calm d2 := ⟨calm1.job, calm1.wait, calm1.errs⟩
theorem calm3 : Cf.Calm d3 := Cf.ew_calm calm2 0
theorem live : ∃ s0 s1 s2 s3 s4 : Cf.Fl, Hid (Cf.new (Nr.new 2 1) = s0) ∧ Hid (Cf.pws s0 5 [7, 8] = (0, 6, s1)) ∧ Hid ({ s1 with mode := 0 } = s2) ∧ Hid (Cf.ew s2 0 = (0, 20, s3)) ∧ Hid (Cf.ew s3 0 = (5, 20, s4)) ∧ s1.c.words.length = 128 ∧ Hid (s1.c.off = false) ∧ Hid (Nr.worn s4.c 0 = 1) ∧
    Hid (∀ i, i < 3 → ([7, 8, 4294967295] : List Int).getD i 0 = s1.c.words.getD (5 + i) 0) ∧ Hid (Cf.Calm s0) ∧ Hid (Cf.Calm s1) ∧ Hid (Cf.Calm s2) ∧ Hid (Cf.Calm s3) :=
  ⟨d0, d1, d2, d3, d4, rfl, Prod.ext dp1 (Prod.ext dt1 rfl), rfl, Prod.ext de3 (Prod.ext dt3 rfl), Prod.ext de4 (Prod.ext dt4 rfl), dl1, do1, dw4, (fun i hi => by
    rcases (show i = 0 ∨ i = 1 ∨ i = 2 by omega) with rfl | rfl | rfl
    · exact dz.1.symm
    · exact dz.2.1.symm
    · exact dz.2.2.symm), calm0, calm1, calm2, calm3⟩
set_option maxHeartbeats 1000000 in
set_option maxRecDepth 100000 in
theorem alive_c (w : World) : Calls Try.prog 9 #[] w fun e w' => e = .returned (.bool true) ∧ Below w.heap.size w w' := by
  obtain ⟨s0, s1, s2, s3, s4, H0, H1, H2, H3, H4, hl, H5, H6, H7, C0, C1, C2, C3⟩ := live
  have hb := begin_o (Below.refl w.heap.size w) (n := 2) (endure := 1) (by decide) (by decide) (by decide) (Lib.hid (by decide)) H0
  go_enter Try.func9, Try.ntmps9
  go_wp2_with (first | (go_at_call 10; refine hb.mono ?_; rintro e w1 ⟨g, bw, be, gf, dd, rfl, h0⟩; clear hb) |
    (go_at_call 11; refine (program_lit (zs := [7, 8]) h0 C0.out (by decide) (by decide) (by decide) (by decide) (by decide) (fun i => by match i with | 0 => decide | 1 => decide | i + 2 => exact ⟨by simp, by simp⟩) (fun i hi => by match i, hi with | 0, _ => rfl | 1, _ => rfl) H1).mono ?_; rintro e w2 ⟨rfl, h1⟩; clear h0) |
    (go_at_call 16; refine (read_r h1.none C1.out (at_ := 5) (n := 3) (zs := [7, 8, 4294967295]) (by decide) (by decide) (by omega) H5.out rfl H7).mono ?_; rintro e w3 ⟨r1, rfl, q1, q2, h2, _⟩; rw [H2.out] at h2; clear h1) |
    (go_at_call 13; refine (erase_r h2 C2.out (by decide) (by decide) (by decide) (by decide) H3).mono ?_; rintro e w4 ⟨rfl, h3, k3⟩; have q3 := q2.same (k3 _ (.inr rfl)); clear h2 k3 q2) |
    (go_at_call 13; refine (erase_r h3 C3.out (by decide) (by decide) (by decide) (by decide) H4).mono ?_; rintro e w5 ⟨rfl, h4, k4⟩; have q4 := q3.same (k4 _ (.inr rfl)); clear h3 k4 q3) |
    (go_at_call 17; refine (Ref1.words_same (zs := [7, 8, 4294967295]) (b1 := r1) (o1 := 0) (b2 := w5.heap.size) (o2 := 0) (fun _ _ => rfl) (fun _ _ => rfl) (by decide) (fun i hi => by rw [Nat.zero_add]; exact (q4.below ((Below.refl _ _).alloc (Nat.le_refl _) _)).cell hi) (fun i hi => by rw [Nat.zero_add, World.cell?_alloc_mark]; match i, hi with | 0, _ => rfl | 1, _ => rfl | 2, _ => rfl)).mono ?_; rintro e w6 ⟨rfl, b6⟩; have h5 := (h4.drvL.then ((Below.refl _ _).alloc (Nat.le_refl _) _)).then b6) |
    (go_at_call 12; refine (ticks_o h5).mono ?_; rintro e w3 ⟨rfl, rfl⟩) |
    (go_at_call 19; refine (blocks_o h5).mono ?_; rintro e w3 ⟨rfl, rfl⟩) |
    (go_at_call 14; refine (Nor.wear_o h5.own H6).mono ?_; rintro e w3 ⟨rfl, rfl⟩))
  go_ret
  exact ⟨rfl, h5.own.below⟩
end Drv
end Go.Proofs.Ytfghlfolejpjjaa
