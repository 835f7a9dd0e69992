/- DriverReads: what is read in parts is what is read at once, and is what the chip has. No condition. -/
import Derived.Test.YtfghlfolejpjjaaDrRead
namespace Go.Proofs.Ytfghlfolejpjjaa
open Go.RowKit
set_option linter.unusedVariables false
attribute [local go_sem] max2_int min2_int max_two min_two
namespace L05Reads
set_option maxHeartbeats 4000000 in
set_option maxRecDepth 100000 in
theorem DriverReads_c (a0 : Option Addr) (len0 cap0 : Nat) (a1 : Int) (a2 : Int) (w : World) (s0 : Sh.ok w (.slice 1 (.int .u32)) [.slice a0 len0 cap0]) (w1 : (Lit.int .u8 a1).wf = true) (w2 : (Lit.int .u8 a2).wf = true) :
    Calls Try.prog 4 #[.slice a0 len0 cap0, .int .u8 a1, .int .u8 a2] w fun e w' => e = .returned (.bool true) ∧ Below w.heap.size w w' := by
  obtain ⟨r1, r1'⟩ := wf_u8 w1
  obtain ⟨r2, r2'⟩ := wf_u8 w2
  obtain ⟨zs, bb, off, rfl, hcap, hmax, hz, ha, hcell⟩ := words_of s0
  clear w1 w2 s0
  by_cases hb : (10 : Int) < (zs.length : Int)
  · go_enter Try.func4, Try.ntmps4
    go_wp2_with (first | (go_at_call 9; refine (Drv.alive_c _).mono ?_; rintro e w1 ⟨rfl, b1⟩))
    go_ret
    exact ⟨rfl, b1⟩
  have hb' : (zs.length : Int) ≤ 10 := by omega
  obtain ⟨k, hk, hkk⟩ : ∃ k : Nat, k < 100 ∧ a1 % 100 = k := ⟨(a1 % 100).toNat, by omega, by omega⟩
  have hkk2 : a1.tmod 100 = k := (Int.tmod_eq_emod_of_nonneg r1).trans hkk
  have hM0 : (0 : Int) < (zs.length : Int) + 1 := by omega
  have hn0 := Int.emod_nonneg a2 (show (zs.length : Int) + 1 ≠ 0 by omega)
  have hn1 := Int.emod_lt_of_pos a2 hM0
  obtain ⟨n, hn, hnn⟩ : ∃ n : Nat, n ≤ zs.length ∧ a2 % ((zs.length : Int) + 1) = n := ⟨(a2 % ((zs.length : Int) + 1)).toNat, by omega, by omega⟩
  have hnn2 : a2.tmod ((zs.length : Int) + 1) = n := (Int.tmod_eq_emod_of_nonneg r2).trans hnn
  clear hn0 hn1
  obtain ⟨s0, s1, z, H0, H1, H2, hzl, H3, C0, C1⟩ := Cf.reads5 hk (zs := zs) (by omega)
  have HZ := Lib.hid hz
  have HC := Lib.hid hcell
  have k1 : (k : Int) < 100 := by omega
  have m1 : (zs.length : Int) ≤ 10 := by omega
  have n1 : (n : Int) ≤ (zs.length : Int) := by omega
  have hkp : (0 : Int) ≤ (k : Int) := by omega
  have hmp : (0 : Int) ≤ (zs.length : Int) := by omega
  have ez : Hid (s1.c.words = z) := H2
  have hsub := Lib.hid (Cf.sub_app (z := z) (k := k) hn (by omega))
  have g1 : Hid (∀ i, i < zs.length → ((z.drop k).take zs.length).getD i 0 = s1.c.words.getD (k + i) 0) := fun i hi => by rw [H2.out, Cf.sub_get z k zs.length i hi]
  have g2 : Hid (∀ i, i < n → ((z.drop k).take n).getD i 0 = s1.c.words.getD (k + i) 0) := fun i hi => by rw [H2.out, Cf.sub_get z k n i hi]
  have g3 : Hid (∀ i, i < zs.length - n → ((z.drop (k + n)).take (zs.length - n)).getD i 0 = s1.c.words.getD (k + n + i) 0) := fun i hi => by rw [H2.out, Cf.sub_get z (k + n) (zs.length - n) i hi]
  have ww : s1.c.words.length = 128 := by rw [H2.out]; exact hzl
  have l1 : Hid (((z.drop k).take zs.length).length = zs.length) := Cf.sub_len (by omega)
  have l2 : Hid (((z.drop k).take n).length = n) := Cf.sub_len (by omega)
  have l3 : Hid (((z.drop (k + n)).take (zs.length - n)).length = zs.length - n) := Cf.sub_len (by omega)
  have gz : Hid (∀ i, i < zs.length → z.getD (k + i) 0 = ((z.drop k).take zs.length).getD i 0) := fun i hi => (Cf.sub_get z k zs.length i hi).symm
  have hm1 : (1 : Int) ≤ (zs.length : Int) + 1 := by omega
  clear hz hcell hb hkk hnn
  have e1 : Hid ((k : Int) + (n : Int) = ((k + n : Nat) : Int)) := by show _ = _; omega
  have e2 : Hid ((zs.length : Int) - (n : Int) = ((zs.length - n : Nat) : Int)) := by show _ = _; omega
  go_enter Try.func4, Try.ntmps4
  go_wp2_with (first | (go_at_call 9; refine (Drv.alive_c _).mono ?_; rintro e w1 ⟨rfl, b1⟩) |
    (go_at_call 10; refine (Drv.begin_o b1 (n := 2) (endure := 5) (by decide) (by decide) (by omega) (Lib.hid (by omega)) H0).mono ?_; rintro e w2 ⟨g, bw, be, gf, dd, rfl, h0⟩; clear b1) |
    (go_at_call 11; refine (Drv.program_o h0 C0.out (by decide) (by decide) (by omega) (by omega) (by omega) HZ ha HC H1).mono ?_; rintro e w4 ⟨rfl, h1⟩; clear h0) |
    (go_at_call 16; refine (Drv.read_u h1.none C1.out (at_ := k) (n := zs.length) (by omega) (by omega) H3.out l1.out g1).mono ?_; rintro e w5 ⟨p1, q1, s2, rfl, L1, h2, c2, C2, _⟩; replace c2 := Lib.hid c2; replace C2 := Lib.hid C2; clear h1) |
    (go_at_call 16; refine (Drv.read_u h2 C2.out (at_ := k) (n := n) (by omega) (by rw [c2.out]; omega) (by rw [c2.out]; exact H3.out) l2.out (Lib.hid (by rw [c2.out]; exact g2.out))).mono ?_; rintro e w6 ⟨p2, q2, s3, rfl, L2, h3, c3, C3, k3⟩; replace L1 := L1.same (fun e => k3 _ (.inr ⟨e, rfl⟩)); replace c3 := Lib.hid (c3.trans c2.out); replace C3 := Lib.hid C3; clear h2 k3) |
    (go_at_call 16; rw [e1.out, e2.out]; refine (Drv.read_u h3 C3.out (at_ := k + n) (n := zs.length - n) (by omega) (by rw [c3.out]; omega) (by rw [c3.out]; exact H3.out) l3.out (Lib.hid (by rw [c3.out]; exact g3.out))).mono ?_; rintro e w7 ⟨p3, q3, s4, rfl, L3, h4, c4, C4, k4⟩; replace L1 := L1.same (fun e => k4 _ (.inl (.inr ⟨e, rfl⟩))); replace L2 := L2.same (fun e => k4 _ (.inr ⟨e, rfl⟩)); replace c4 := Lib.hid (c4.trans c3.out); replace C4 := Lib.hid C4; clear h3 k4) |
    (at_builtin; refine append_u (by go_simp) _ _ rfl w7.heap.size _ 0 [] rfl (World.ownsRow_nil _ _ _ _) rfl L2 (by omega) (Nat.le_refl _) ?_; intro v2 w8 o2 gr2; clear L2; have B8 := (Below.refl w7.heap.size w7).grown gr2 (Nat.le_refl _) (by intro k hk; cases hk)) |
    (at_builtin; refine append_u (by go_simp) _ _ rfl w7.heap.size _ (0 + n) _ rfl o2 rfl (L3.same (fun e => B8.block q3 (h4.lt (.inr ⟨e, rfl⟩)))) (by omega) B8.size ?_; intro v3 w9 o3 gr3; clear L3; have B9 := B8.grown gr3 B8.size (fun k hk => (o2.lt k hk).1)) |
    (go_at_call 17; rw [List.nil_append, hsub.out] at o3; obtain ⟨a3, q4, kap3, rfl, L4⟩ := Lies.of_owns o3; have L5 := L1.same (fun e => B9.block q1 (h4.lt (.inl (.inl (.inr ⟨e, rfl⟩))))); clear L1; refine (words_u (zs := (z.drop k).take zs.length) (b1 := q4) (o1 := 0) (b2 := q1) (o2 := 0) (by rw [l1.out]; omega) l1.out.symm L4.at_ L5.at_ (by rw [l1.out]; omega) (fun i hi => by rw [l1.out] at hi; rw [Nat.zero_add]; exact L4.2.2 i (by omega)) (fun i hi => by rw [l1.out] at hi; rw [Nat.zero_add]; exact L5.2.2 i hi)).mono ?_; rintro e w10 ⟨rfl, b10⟩; have B10 := Below.then B9 b10; have h5 := h4.then B10; have L6 := L5.same (fun e => b10.block q1 (Nat.lt_of_lt_of_le (h4.lt (.inl (.inl (.inr ⟨e, rfl⟩)))) B9.size)); clear L5) |
    (go_at_call 15; refine (Nor.words_o h5.drvL.own (by rw [c4.out]; exact H2)).mono ?_; rintro e w11 ⟨ra, kap1, rfl, t1, t2, t3, hO, t5⟩) |
    (go_at_call 17; refine (words_u (zs := (z.drop k).take zs.length) (b1 := q1) (o1 := 0) (b2 := ra) (o2 := k) l1.out.symm l1.out.symm L6.at_ (fun _ _ => rfl) (by rw [l1.out]; omega) (fun i hi => by rw [l1.out] at hi; rw [Nat.zero_add]; exact (L6.same (fun e => t5.block q1 (h5.lt (.inl (.inl (.inr ⟨e, rfl⟩)))))).2.2 i hi) (fun i hi => by rw [l1.out] at hi; rw [← gz.out i hi]; exact t3.cell (by omega))).mono ?_; rintro e w12 ⟨rfl, b12⟩))
  go_ret
  exact ⟨rfl, Below.then hO.below b12⟩
end L05Reads
end Go.Proofs.Ytfghlfolejpjjaa
