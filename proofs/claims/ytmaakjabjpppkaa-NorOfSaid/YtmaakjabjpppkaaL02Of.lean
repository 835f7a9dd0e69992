/- NorOf: a chip has the words that it was made of, which may be written over; of no whole blocks there is none. No condition. -/
import Derived.Test.YtmaakjabjpppkaaLive2
import Derived.Test.YtmaakjabjpppkaaDead
import Derived.Test.YtmaakjabjpppkaaArgs
namespace Go.Proofs.Ytmaakjabjpppkaa
open Go.RowKit
set_option linter.unusedVariables false
attribute [local go_sem] max2_int min2_int max_two min_two
namespace L02Of
theorem Own.store {w0 w : World} {g bw be : Nat} {c : Nr.C} (h : Own w0 w g bw be c) {r : Nat} (hr : w0.heap.size ≤ r) (h1 : r ≠ g) (h2 : r ≠ bw) (h3 : r ≠ be) (i : Nat) (u : Value) : Own w0 (w.setCell ⟨r, i, none⟩ u) g bw be c := by
  have K := (Keep.refl (fun k => k = r) w).setCell (p := ⟨r, i, none⟩) (.inl rfl) u
  exact ⟨h.chip.keep K (fun e => h1 e.symm) (fun e => h2 e.symm) (fun e => h3 e.symm), h.lg, h.lw, h.le, h.below.setCell (p := ⟨r, i, none⟩) hr u⟩
theorem Row.free {w : World} {a : Nat} {zs : List Int} (h : Row w a zs) (i : Nat) : w.frozen? ⟨a, i, none⟩ = false := by
  obtain ⟨cur, e, hc⟩ := h
  simp only [World.frozen?, e]; simp
theorem free_then {w w' : World} {a : Nat} {zs : List Int} {i : Nat} (hb : Below w.heap.size w w') (h : Row w a zs) (hf : w.frozen? ⟨a, i, none⟩ = false) : w'.frozen? ⟨a, i, none⟩ = false := by
  rw [hb.frozen (p := ⟨a, i, none⟩) h.lt]; exact hf
set_option maxHeartbeats 4000000 in
set_option maxRecDepth 100000 in
theorem NorOf_c (a0 : Option Addr) (len0 cap0 : Nat) (a1 : Int) (w : World) (s0 : Sh.ok w (.slice 1 (.int .u32)) [.slice a0 len0 cap0]) (w1 : (Lit.int .i64 a1).wf = true) :
    Calls Try.prog 4 #[.slice a0 len0 cap0, .int .i64 a1] w fun e w' => e = .returned (.bool true) ∧ Below w.heap.size w w' := by
  obtain ⟨zs, b, off, rfl, hcap, hmax, hz, ha, hcell⟩ := words_of s0
  have HE := Lib.hid (wf_i64 w1).2
  have HZ := Lib.hid hz
  have HC := Lib.hid hcell
  clear s0 w1 hz hcell
  have hl0 : 0 ≤ (zs.length : Int) := by omega
  by_cases hb : (4480 : Int) < (zs.length : Int)
  · go_enter Try.func4, Try.ntmps4
    go_wp2_with (first | (go_at_call 11; refine (Nor.alive_c _).mono ?_; rintro e w1 ⟨rfl, b1⟩))
    go_ret
    exact ⟨rfl, b1⟩
  have hb' : (zs.length : Int) ≤ 4480 := by omega
  clear hb
  have B0 := Lib.hid (show zs.length ≤ 1000000 by omega)
  by_cases h1 : zs.length % 64 = 0
  case neg =>
    have B1 := Lib.hid (show zs.length < 64 ∨ 64 * 65 ≤ zs.length ∨ ¬ zs.length % 64 = 0 ∨ a1 < 0 from .inr (.inr (.inl h1)))
    have h3' : ((zs.length : Int) % 64 == 0) = false := by rw [beq_eq_false_iff_ne]; omega
    clear h1
    go_enter Try.func4, Try.ntmps4
    go_wp2_with (first | (go_at_call 11; refine (Nor.alive_c _).mono ?_; rintro e w1 ⟨rfl, b1⟩) | (go_at_call 18; refine (Nor.of_bad B0.out B1.out).mono ?_; rintro e w2 ⟨rfl, rfl⟩))
    go_ret
    exact ⟨rfl, b1⟩
  have h1' : (zs.length : Int) % 64 = 0 := by omega
  by_cases h2 : zs.length < 64
  · have B1 := Lib.hid (show zs.length < 64 ∨ 64 * 65 ≤ zs.length ∨ ¬ zs.length % 64 = 0 ∨ a1 < 0 from .inl h2)
    have h2' : (zs.length : Int) = 0 := by omega
    clear h1 h2 h1'
    go_enter Try.func4, Try.ntmps4
    go_wp2_with (first | (go_at_call 11; refine (Nor.alive_c _).mono ?_; rintro e w1 ⟨rfl, b1⟩) | (go_at_call 18; refine (Nor.of_bad B0.out B1.out).mono ?_; rintro e w2 ⟨rfl, rfl⟩))
    go_ret
    exact ⟨rfl, b1⟩
  have h2' : 0 < (zs.length : Int) := by omega
  by_cases h3 : 4096 < zs.length
  · have B1 := Lib.hid (show zs.length < 64 ∨ 64 * 65 ≤ zs.length ∨ ¬ zs.length % 64 = 0 ∨ a1 < 0 by omega)
    have h3' : (4096 : Int) < (zs.length : Int) := by omega
    clear h1 h2 h3
    go_enter Try.func4, Try.ntmps4
    go_wp2_with (first | (go_at_call 11; refine (Nor.alive_c _).mono ?_; rintro e w1 ⟨rfl, b1⟩) | (go_at_call 18; refine (Nor.of_bad B0.out B1.out).mono ?_; rintro e w2 ⟨rfl, rfl⟩))
    go_ret
    exact ⟨rfl, b1⟩
  have h3' : (zs.length : Int) ≤ 4096 := by omega
  by_cases h4 : a1 < 0
  · have B1 := Lib.hid (show zs.length < 64 ∨ 64 * 65 ≤ zs.length ∨ ¬ zs.length % 64 = 0 ∨ a1 < 0 by omega)
    have h4d : decide (0 ≤ a1) = false := by simp; omega
    clear h1 h2 h3
    go_enter Try.func4, Try.ntmps4
    go_wp2_with (first | (go_at_call 11; refine (Nor.alive_c _).mono ?_; rintro e w1 ⟨rfl, b1⟩) | (go_at_call 18; refine (Nor.of_bad B0.out B1.out).mono ?_; rintro e w2 ⟨rfl, rfl⟩))
    go_ret
    exact ⟨rfl, b1⟩
  have h4' : 0 ≤ a1 := by omega
  obtain ⟨n, hn⟩ : ∃ n : Nat, zs.length = 64 * n := ⟨zs.length / 64, by omega⟩
  have n1 : 1 ≤ n := by omega
  have n2 : n ≤ 64 := by omega
  have N1 := Lib.hid n1
  have N2 := Lib.hid n2
  have HN := Lib.hid hn
  have hdiv : (zs.length : Int) / 64 = n := by omega
  have hdiv2 : (zs.length : Int).tdiv 64 = n := by rw [Int.tdiv_eq_ediv_of_nonneg (by omega)]; omega
  have hlt : 0 < zs.length := by omega
  obtain rfl := ha 0 hlt
  have ha2 := Lib.hid ha
  have hbig := Lib.hid (show zs.length < 1000000 by omega)
  obtain ⟨c, H0, x1, x2⟩ : ∃ c, Hid (Nr.of_ zs a1 = c) ∧ Hid (c.words = zs) ∧ Hid ((c.wear.length : Int) = n) := ⟨_, rfl, rfl, by
    show ((List.replicate (zs.length / 64) (0 : Int)).length : Int) = n
    simp; omega⟩
  clear h1 h2 h3 h4 n1 n2 hn ha
  go_enter Try.func4, Try.ntmps4
  go_wp2_with (first | (go_at_call 11; refine (Nor.alive_c _).mono ?_; rintro e w1 ⟨rfl, b1⟩) | (go_at_call 18; refine (Nor.of_o b1 N1.out N2.out HN.out h4' HZ HE (fun j hj => Sl.below_cell b1 (HC.out j hj)) H0).mono ?_; rintro e w2 ⟨g, bw, be, rfl, h1⟩; clear b1) |
    (go_at_call 19; refine (Nor.words_o h1 x1).mono ?_; rintro e w3 ⟨r1, k1, rfl, i1, i2, i3, h2, i4⟩; have L1 := h1.chip.lt; have S1 := h1.below.size; clear h1; have cx := i3.cell (i := 0) hlt; have fx := Row.free i3 0) |
    (go_at_call 20; refine (Ref1.words_same (b1 := r1) (o1 := 0) (b2 := b) (o2 := off) (fun _ _ => rfl) (fun _ _ => rfl) hbig.out (fun i hi => by rw [Nat.zero_add]; exact i3.cell hi) (fun i hi => Sl.below_cell h2.below (HC.out i hi))).mono ?_; rintro e w4 ⟨rfl, b4⟩; replace h2 := h2.then b4; replace cx := Sl.below_cell b4 cx; replace fx := free_then b4 i3 fx; clear i3; generalize zs.getD 0 0 = x0 at cx) |
    (go_at_call 19; refine (Nor.words_o (Own.store h2 (by omega) (by omega) (by omega) (by omega) _ _) x1).mono ?_; rintro e w5 ⟨r2, k2, rfl, j1, j2, j3, h6, j4⟩; clear h2) |
    (go_at_call 20; refine (Ref1.words_same (b1 := r2) (o1 := 0) (b2 := b) (o2 := off) (fun _ _ => rfl) (fun _ _ => rfl) hbig.out (fun i hi => by rw [Nat.zero_add]; exact j3.cell hi) (fun i hi => Sl.below_cell h6.below (HC.out i hi))).mono ?_; rintro e w6 ⟨rfl, b6⟩; replace h6 := h6.then b6; clear j3) |
    (go_at_call 21; refine (Nor.blocks_o h6 x2).mono ?_; rintro e w7 ⟨rfl, rfl⟩))
  go_ret
  exact ⟨rfl, h6.below⟩
end L02Of
end Go.Proofs.Ytmaakjabjpppkaa
