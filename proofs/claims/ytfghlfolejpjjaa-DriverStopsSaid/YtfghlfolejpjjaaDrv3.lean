/- Contracts of package driver (3): wait. -/
import Derived.Test.YtfghlfolejpjjaaDrv2
namespace Go.Proofs.Ytfghlfolejpjjaa
open Go.RowKit
set_option linter.unusedVariables false
attribute [local go_sem] max2_int min2_int max_two min_two
namespace Drv
section
variable {S : Nat → Prop} {w0 w w' : World} {dd gf g bw be : Nat} {blocks ticks : Int} {s s' : Cf.Fl}

set_option maxHeartbeats 1000000 in
set_option maxRecDepth 100000 in
theorem wait_146 (h : DrvAt S w0 w dd gf g bw be blocks ticks s) (hs : Hid (Cf.status s = 146)) (q : Hid (Cf.write s 0 80 = (0, s'))) : Calls Try.prog 39 #[.pointer (some ⟨dd, 0, none⟩)] w fun e w' => e = .returned (.int .i64 6) ∧ DrvAt (Sx S w w') w0 w' dd gf g bw be blocks ticks s' ∧ Keep (Mine S dd) w w' := by
  obtain ⟨c0, c1, c2⟩ := h.cells
  have e1 : bits .and .u32 146 128 = 128 := by decide
  go_enter Try.func39, Try.ntmps39
  go_wp2
  refine wp_loop_rounds 3 ?_
  rw [rounds_succ]
  go_wp2_with (first | (go_at_call 55; refine (flash_status h hs).mono ?_; rintro e w' ⟨rfl, rfl⟩) | (go_at_call 45; refine (errors_146 h hs q).mono ?_; rintro e w' ⟨rfl, p1, p2⟩; clear h))
  go_ret
  exact ⟨rfl, p1, p2⟩

set_option maxHeartbeats 1000000 in
set_option maxRecDepth 100000 in
theorem wait_162 (h : DrvAt S w0 w dd gf g bw be blocks ticks s) (hs : Hid (Cf.status s = 162)) (q : Hid (Cf.write s 0 80 = (0, s'))) : Calls Try.prog 39 #[.pointer (some ⟨dd, 0, none⟩)] w fun e w' => e = .returned (.int .i64 6) ∧ DrvAt (Sx S w w') w0 w' dd gf g bw be blocks ticks s' ∧ Keep (Mine S dd) w w' := by
  obtain ⟨c0, c1, c2⟩ := h.cells
  have e1 : bits .and .u32 162 128 = 128 := by decide
  go_enter Try.func39, Try.ntmps39
  go_wp2
  refine wp_loop_rounds 3 ?_
  rw [rounds_succ]
  go_wp2_with (first | (go_at_call 55; refine (flash_status h hs).mono ?_; rintro e w' ⟨rfl, rfl⟩) | (go_at_call 45; refine (errors_162 h hs q).mono ?_; rintro e w' ⟨rfl, p1, p2⟩; clear h))
  go_ret
  exact ⟨rfl, p1, p2⟩

/-- A flash whose job has so much time left. -/
def at_ (s : Cf.Fl) (j : Cf.Jb) (l : Int) : Cf.Fl := { s with job := some { j with left := l } }
set_option maxHeartbeats 4000000 in
set_option maxRecDepth 100000 in
theorem wait_job {j : Cf.Jb} {L : Nat} (h : DrvAt S w0 w dd gf g bw be blocks ticks (at_ s j L)) (hL : 1 ≤ L) (hL2 : L ≤ 20) (t0 : 0 ≤ ticks) (t1 : ticks ≤ 1000000000) (hs : Hid (∀ l, Cf.status (at_ s j l) = 0)) (ht : Hid (∀ l : Int, 1 < l → Cf.tick (at_ s j l) 1 = (0, at_ s j (l - 1))))
    {e r : Int} {s1 s2 : Cf.Fl} (hd : Hid (Cf.tick (at_ s j 1) 1 = (e, s1))) (he : (e = 4 ∧ r = 4 ∧ s1 = s2) ∨ (e = 0 ∧ r = 0 ∧ s1 = s2 ∧ Cf.status s1 = 128) ∨ (e = 0 ∧ r = 5 ∧ Cf.status s1 = 160 ∧ Cf.write s1 0 80 = (0, s2))) :
    Calls Try.prog 39 #[.pointer (some ⟨dd, 0, none⟩)] w fun x w' => x = .returned (.int .i64 r) ∧ DrvAt (Sx S w w') w0 w' dd gf g bw be blocks (ticks + L) s2 ∧ Keep (Mine S dd) w w' := by
  have e1 : bits .and .u32 0 128 = 0 := by decide
  have e2 : bits .and .u32 128 128 = 128 := by decide
  have e3 : bits .and .u32 160 128 = 128 := by decide
  have HE := Lib.hid he
  have h0 := h
  clear he
  go_enter Try.func39, Try.ntmps39
  go_wp2
  go_loopw [3] (fun x wr => (∃ l : Nat, 1 ≤ l ∧ l ≤ L ∧ DrvAt (Sx S w wr) w0 wr dd gf g bw be blocks (ticks + (L : Int) - l) (at_ s j l) ∧ Keep (Mine S dd) w wr) ∨ (e = 0 ∧ DrvAt (Sx S w wr) w0 wr dd gf g bw be blocks (ticks + (L : Int)) s1 ∧ Keep (Mine S dd) w wr)) (fun x wr => (ticks + (L : Int) - intOf ((wr.cell? ⟨dd, 2, none⟩).getD undef)).toNat)
  case atStart => exact .inl ⟨L, hL, Nat.le_refl _, by rw [show ticks + (L : Int) - (L : Int) = ticks by omega]; exact h0.up h0, Keep.refl _ _⟩
  case round =>
    rcases hrel with ⟨l, l1, l2, hD, hK⟩ | ⟨rfl, hD, hK⟩
    · obtain ⟨c0, c1, c2⟩ := hD.cells
      have f2 := hD.free 2
      have c2x := c2
      obtain ⟨t, htt⟩ : ∃ t : Int, ticks + (L : Int) - l = t := ⟨_, rfl⟩
      rw [htt] at hD c2 c2x
      have ht0 : 0 ≤ t := by omega
      have ht1 : t ≤ 1000000020 := by omega
      have htr : t - ticks = (L : Int) - l := by omega
      have hs1 := Lib.hid (hs.out l)
      obtain ⟨hT, hKT⟩ := hD.tick (t + 1)
      have szT : (wr.setCell ⟨dd, 2, none⟩ (.int .i64 (t + 1))).heap.size = wr.heap.size := by simp [World.setCell]
      have K1 : Keep (Mine S dd) w (wr.setCell ⟨dd, 2, none⟩ (.int .i64 (t + 1))) := hK.trans (hKT.mono fun k _ e => .inr e)
      have hsz := hK.size
      have d0 := hT.cells.1
      have HT := Lib.hid hT
      have HK1 := Lib.hid K1
      have HX : Hid (∀ w5 : World, (wr.setCell ⟨dd, 2, none⟩ (.int .i64 (t + 1))).heap.size ≤ w5.heap.size → ∀ k, Sx (Sx S w wr) (wr.setCell ⟨dd, 2, none⟩ (.int .i64 (t + 1))) w5 k → Sx S w w5 k) := by
        intro w5 h5 k hk
        rw [Sx_eq (S := Sx S w wr) (w' := w5) szT] at hk
        rw [szT] at h5
        exact Sx.join hsz h5 hk
      have HN : Hid (∀ k, k < w.heap.size → ¬ Mine S dd k → ¬ Mine (Sx S w wr) dd k) := fun k hk hn e => hn (e.elim (fun e => e.elim .inl (fun e => absurd hk (by omega))) .inr)
      have hD0 := hD
      clear hT K1 hKT hK hD
      by_cases hl1 : 1 < l
      · have q := Lib.hid (ht.out l (by omega))
        go_wp2_with (first | (go_at_call 55; refine (flash_status hD0 hs1).mono ?_; rintro e w' ⟨rfl, rfl⟩) | (go_at_call 56; refine (flash_tick HT.out q).mono ?_; rintro x w5 ⟨rfl, p1, p2⟩; clear HT))
        have c5 := p1.cells.2.2
        go_roundw
        case rel => exact .inl ⟨l - 1, by omega, by omega, by
          rw [show ticks + (L : Int) - ((l - 1 : Nat) : Int) = t + 1 by omega, show ((l - 1 : Nat) : Int) = (l : Int) - 1 by omega]
          exact h0.lift' p1 (HK1.out.trans' p2 HN.out).size (HX.out w5 p2.size), HK1.out.trans' p2 HN.out⟩
        case measure =>
          rw [c5, c2x]; simp [intOf]; omega
      · obtain rfl : l = 1 := by omega
        rcases HE.out with ⟨rfl, rfl, rfl⟩ | ⟨rfl, rfl, rfl, hst⟩ | ⟨rfl, rfl, hst, hwr⟩
        · go_wp2_with (first | (go_at_call 55; refine (flash_status hD0 hs1).mono ?_; rintro e w' ⟨rfl, rfl⟩) | (go_at_call 56; refine (flash_tick HT.out hd).mono ?_; rintro x w5 ⟨rfl, p1, p2⟩; clear HT))
          go_ret
          refine ⟨rfl, ?_, HK1.out.trans' p2 HN.out⟩
          rw [show ticks + (L : Int) = t + 1 by omega]
          exact h0.lift' p1 (HK1.out.trans' p2 HN.out).size (HX.out w5 p2.size)
        · go_wp2_with (first | (go_at_call 55; refine (flash_status hD0 hs1).mono ?_; rintro e w' ⟨rfl, rfl⟩) | (go_at_call 56; refine (flash_tick HT.out hd).mono ?_; rintro x w5 ⟨rfl, p1, p2⟩; clear HT))
          have c5 := p1.cells.2.2
          go_roundw
          case rel => exact .inr ⟨trivial, by
            rw [show ticks + (L : Int) = t + 1 by omega]
            exact h0.lift' p1 (HK1.out.trans' p2 HN.out).size (HX.out w5 p2.size), HK1.out.trans' p2 HN.out⟩
          case measure =>
            rw [c5, c2x]; simp [intOf]; omega
        · go_wp2_with (first | (go_at_call 55; refine (flash_status hD0 hs1).mono ?_; rintro e w' ⟨rfl, rfl⟩) | (go_at_call 56; refine (flash_tick HT.out hd).mono ?_; rintro x w5 ⟨rfl, p1, p2⟩; clear HT))
          have c5 := p1.cells.2.2
          go_roundw
          case rel => exact .inr ⟨trivial, by
            rw [show ticks + (L : Int) = t + 1 by omega]
            exact h0.lift' p1 (HK1.out.trans' p2 HN.out).size (HX.out w5 p2.size), HK1.out.trans' p2 HN.out⟩
          case measure =>
            rw [c5, c2x]; simp [intOf]; omega
    · obtain ⟨c0, c1, c2⟩ := hD.cells
      rcases HE.out with ⟨h4, _⟩ | ⟨_, rfl, rfl, hst⟩ | ⟨_, rfl, hst, hwr⟩
      · exact absurd h4 (by decide)
      · have hst' := Lib.hid hst
        clear hst
        go_wp2_with (first | (go_at_call 55; refine (flash_status hD hst').mono ?_; rintro e w' ⟨rfl, rfl⟩) | (go_at_call 45; refine (errors_ok hD hst').mono ?_; rintro e w' ⟨rfl, rfl⟩))
        go_ret
        exact ⟨rfl, hD, hK⟩
      · have hst' := Lib.hid hst
        have hwr' := Lib.hid hwr
        clear hst hwr
        go_wp2_with (first | (go_at_call 55; refine (flash_status hD hst').mono ?_; rintro e w' ⟨rfl, rfl⟩) | (go_at_call 45; refine (errors_160 hD hst' hwr').mono ?_; rintro e w5 ⟨rfl, p1, p2⟩))
        go_ret
        exact ⟨rfl, h0.join p1 hK.size p2.size, hK.chain p2⟩
end
end Drv
end Go.Proofs.Ytfghlfolejpjjaa
