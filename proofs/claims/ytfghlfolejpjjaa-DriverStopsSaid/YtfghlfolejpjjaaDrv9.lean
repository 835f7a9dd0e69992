/- Contracts of package driver (9): Program. -/
import Derived.Test.YtfghlfolejpjjaaDrv8
import Derived.Test.YtfghlfolejpjjaaDr2
namespace Go.Proofs.Ytfghlfolejpjjaa
open Go.RowKit
set_option linter.unusedVariables false
attribute [local go_sem] max2_int min2_int max_two min_two
namespace Drv
section
variable {S : Nat → Prop} {w0 w w' : World} {dd gf g bw be : Nat} {blocks ticks : Int} {s s' : Cf.Fl}
set_option maxHeartbeats 1000000 in
set_option maxRecDepth 100000 in
theorem program_c (h : DrvAt S w0 w dd gf g bw be blocks ticks s) (hc : Cf.Calm s) (t0 : 0 ≤ ticks) (t1 : ticks ≤ 900000000) {at_ : Int} (ha : -100000000000 ≤ at_) (ha' : at_ ≤ 100000000000) {zs : List Int} {a : Option Addr} {cap b off : Nat} (hlen : zs.length ≤ 64)
    (hz : Hid (∀ i : Nat, 0 ≤ zs.getD i 0 ∧ zs.getD i 0 < 4294967296)) (hA : ∀ i, i < zs.length → a = some ⟨b, off, none⟩) (hcell : Hid (∀ i, i < zs.length → w.cell? ⟨b, off + i, none⟩ = some (.int .u32 (zs.getD i 0)))) (nb : ¬ Mine S dd b) :
    Calls Try.prog 11 #[.pointer (some ⟨dd, 0, none⟩), .int .i64 at_, .slice a zs.length cap] w fun x w' => x = .returned (.int .i64 (Cf.pws s at_ zs).1) ∧ Post S w0 w dd gf g bw be blocks (ticks + (Cf.pws s at_ zs).2.1) (Cf.pws s at_ zs).2.2 w' := by
  have hmf := @makeFunc_run Try.prog
  have hlen2 : (zs.length : Int) ≤ 64 := by omega
  have hW := (h.then ((Below.refl _ _).alloc (Nat.le_refl _) (.cells #[.pointer (some ⟨dd, 0, none⟩)] 25))).then ((Below.refl _ _).alloc (Nat.le_refl _) (.cells #[.int .i64 at_] 3))
  have KW := ((Keep.refl (Mine S dd) w).alloc (.cells #[.pointer (some ⟨dd, 0, none⟩)] 25)).alloc (.cells #[.int .i64 at_] 3)
  have q0 : ((w.alloc (.cells #[.pointer (some ⟨dd, 0, none⟩)] 25)).alloc (.cells #[.int .i64 at_] 3)).cell? ⟨w.heap.size, 0, none⟩ = some (.pointer (some ⟨dd, 0, none⟩)) := by go_simp
  have q1 : ((w.alloc (.cells #[.pointer (some ⟨dd, 0, none⟩)] 25)).alloc (.cells #[.int .i64 at_] 3)).cell? ⟨w.heap.size + 1, 0, none⟩ = some (.int .i64 at_) := by go_simp
  have n0 : ¬ Mine S dd w.heap.size := fresh_not h (Nat.le_refl _)
  have n1 : ¬ Mine S dd (w.heap.size + 1) := fresh_not h (by omega)
  have h0 := h
  go_enter Try.func11, Try.ntmps11
  go_wp2_with (go_at_call 35; refine (good_c hW).mono ?_; rintro e w' ⟨rfl, rfl⟩)
  go_loopw [15] (fun i wr => ∃ k : Nat, k ≤ zs.length ∧ i = .int .i64 k ∧ (Cf.pwN s at_ zs k).1 = 0 ∧ Post S w0 ((w.alloc (.cells #[.pointer (some ⟨dd, 0, none⟩)] 25)).alloc (.cells #[.int .i64 at_] 3)) dd gf g bw be blocks (ticks + (Cf.pwN s at_ zs k).2.1) (Cf.pwN s at_ zs k).2.2 wr) (fun i _ => zs.length - (intOf i).toNat)
  case atStart => exact ⟨0, Nat.zero_le _, rfl, rfl, by
    show Post _ _ _ _ _ _ _ _ _ (ticks + 0) s _
    rw [show ticks + 0 = ticks by omega]
    exact ⟨hW.up hW, Keep.refl _ _⟩⟩
  case round =>
    obtain ⟨k, hk, rfl, hz0, hp⟩ := hrel
    by_cases hlt : k < zs.length
    · obtain rfl := hA k hlt
      have hlt2 : (k : Int) < (zs.length : Int) := by omega
      have cx := Keep.cell hp.2 (Keep.cell KW (hcell.out k hlt) nb) nb
      have e0 := Keep.cell hp.2 q0 n0
      have e1 := Keep.cell hp.2 q1 n1
      have hx := hz.out k
      have hcm := Cf.pwN_calm hc at_ zs k
      have htk := Cf.pwN_ticks s at_ zs k
      have hstep := Cf.pwN_step hz0
      generalize zs.getD k 0 = x at cx hx hstep
      have hx1 := hx.1
      have hx2 := hx.2
      have Q := hp.1
      have hW3 := ((Q.then ((Below.refl _ _).alloc (Nat.le_refl _) (.cells #[.int .i64 (k : Int)] 3))).then ((Below.refl _ _).alloc (Nat.le_refl _) (.cells #[.int .u32 x] 34))).then ((Below.refl _ _).alloc (Nat.le_refl _) (.cells #[.func (.func 37) #[] #[.pointer (some ⟨w.heap.size, 0, none⟩), .pointer (some ⟨w.heap.size + 1, 0, none⟩), .pointer (some ⟨wr.heap.size, 0, none⟩), .pointer (some ⟨wr.heap.size + 1, 0, none⟩)], .func (.func 39) #[.pointer (some ⟨dd, 0, none⟩)] #[]] 78))
      have KW3 := (((Keep.refl (Mine (Sx S ((w.alloc (.cells #[.pointer (some ⟨dd, 0, none⟩)] 25)).alloc (.cells #[.int .i64 at_] 3)) wr) dd) wr).alloc (.cells #[.int .i64 (k : Int)] 3)).alloc (.cells #[.int .u32 x] 34)).alloc (.cells #[.func (.func 37) #[] #[.pointer (some ⟨w.heap.size, 0, none⟩), .pointer (some ⟨w.heap.size + 1, 0, none⟩), .pointer (some ⟨wr.heap.size, 0, none⟩), .pointer (some ⟨wr.heap.size + 1, 0, none⟩)], .func (.func 39) #[.pointer (some ⟨dd, 0, none⟩)] #[]] 78)
      have B3 := (((Below.refl wr.heap.size wr).alloc (Nat.le_refl _) (.cells #[.int .i64 (k : Int)] 3)).alloc (by simp) (.cells #[.int .u32 x] 34)).alloc (by simp; omega) (.cells #[.func (.func 37) #[] #[.pointer (some ⟨w.heap.size, 0, none⟩), .pointer (some ⟨w.heap.size + 1, 0, none⟩), .pointer (some ⟨wr.heap.size, 0, none⟩), .pointer (some ⟨wr.heap.size + 1, 0, none⟩)], .func (.func 39) #[.pointer (some ⟨dd, 0, none⟩)] #[]] 78)
      have z0 := Sl.below_cell (((Below.refl wr.heap.size wr).alloc (Nat.le_refl _) (.cells #[.int .i64 (k : Int)] 3)).alloc (by simp) (.cells #[.int .u32 x] 34)) e0
      have y0 := Sl.below_cell B3 e0
      have y1 := Sl.below_cell B3 e1
      have y2 : (((wr.alloc (.cells #[.int .i64 (k : Int)] 3)).alloc (.cells #[.int .u32 x] 34)).alloc (.cells #[.func (.func 37) #[] #[.pointer (some ⟨w.heap.size, 0, none⟩), .pointer (some ⟨w.heap.size + 1, 0, none⟩), .pointer (some ⟨wr.heap.size, 0, none⟩), .pointer (some ⟨wr.heap.size + 1, 0, none⟩)], .func (.func 39) #[.pointer (some ⟨dd, 0, none⟩)] #[]] 78)).cell? ⟨wr.heap.size, 0, none⟩ = some (.int .i64 (k : Int)) := by go_simp
      have y3 : (((wr.alloc (.cells #[.int .i64 (k : Int)] 3)).alloc (.cells #[.int .u32 x] 34)).alloc (.cells #[.func (.func 37) #[] #[.pointer (some ⟨w.heap.size, 0, none⟩), .pointer (some ⟨w.heap.size + 1, 0, none⟩), .pointer (some ⟨wr.heap.size, 0, none⟩), .pointer (some ⟨wr.heap.size + 1, 0, none⟩)], .func (.func 39) #[.pointer (some ⟨dd, 0, none⟩)] #[]] 78)).cell? ⟨wr.heap.size + 1, 0, none⟩ = some (.int .u32 x) := by go_simp
      have y4 : (((wr.alloc (.cells #[.int .i64 (k : Int)] 3)).alloc (.cells #[.int .u32 x] 34)).alloc (.cells #[.func (.func 37) #[] #[.pointer (some ⟨w.heap.size, 0, none⟩), .pointer (some ⟨w.heap.size + 1, 0, none⟩), .pointer (some ⟨wr.heap.size, 0, none⟩), .pointer (some ⟨wr.heap.size + 1, 0, none⟩)], .func (.func 39) #[.pointer (some ⟨dd, 0, none⟩)] #[]] 78)).cell? ⟨wr.heap.size + 1 + 1, 0, none⟩ = some (.func (.func 37) #[] #[.pointer (some ⟨w.heap.size, 0, none⟩), .pointer (some ⟨w.heap.size + 1, 0, none⟩), .pointer (some ⟨wr.heap.size, 0, none⟩), .pointer (some ⟨wr.heap.size + 1, 0, none⟩)]) := by go_simp
      have y5 : (((wr.alloc (.cells #[.int .i64 (k : Int)] 3)).alloc (.cells #[.int .u32 x] 34)).alloc (.cells #[.func (.func 37) #[] #[.pointer (some ⟨w.heap.size, 0, none⟩), .pointer (some ⟨w.heap.size + 1, 0, none⟩), .pointer (some ⟨wr.heap.size, 0, none⟩), .pointer (some ⟨wr.heap.size + 1, 0, none⟩)], .func (.func 39) #[.pointer (some ⟨dd, 0, none⟩)] #[]] 78)).cell? ⟨wr.heap.size + 1 + 1, 1, none⟩ = some (.func (.func 39) #[.pointer (some ⟨dd, 0, none⟩)] #[]) := by go_simp
      have hword := word_c hW3 hcm (by omega) (by omega) y0 y1 y2 y3 hx1 hx2 (by omega) (by omega) (fresh_not Q (by omega)) y4 y5
      obtain ⟨pe, pt, ps, hpw⟩ : ∃ pe pt ps, Cf.pw (Cf.pwN s at_ zs k).2.2 (at_ + (k : Int)) x = (pe, pt, ps) := ⟨_, _, _, rfl⟩
      rw [hpw] at hword hstep
      have HS := Lib.hid hstep
      have HP := Lib.hid hp
      have HB := Lib.hid (fun (w5 : World) (t2 : Int) (s2 : Cf.Fl) (p : Post (Sx S ((w.alloc (.cells #[.pointer (some ⟨dd, 0, none⟩)] 25)).alloc (.cells #[.int .i64 at_] 3)) wr) w0 (((wr.alloc (.cells #[.int .i64 (k : Int)] 3)).alloc (.cells #[.int .u32 x] 34)).alloc (.cells #[.func (.func 37) #[] #[.pointer (some ⟨w.heap.size, 0, none⟩), .pointer (some ⟨w.heap.size + 1, 0, none⟩), .pointer (some ⟨wr.heap.size, 0, none⟩), .pointer (some ⟨wr.heap.size + 1, 0, none⟩)], .func (.func 39) #[.pointer (some ⟨dd, 0, none⟩)] #[]] 78)) dd gf g bw be blocks t2 s2 w5) => Post.chain hW hp (Post.back Q KW3 p))
      clear hcm hz0 hp Q hstep
      by_cases he : pe = 0
      · subst he
        go_wp2_with (go_at_call 36; refine hword.mono ?_; rintro x w5 ⟨rfl, p⟩; clear hword)
        go_roundw
        case rel => exact ⟨k + 1, by omega, by go_num, by rw [HS.out], by
          have := HB.out w5 _ _ p
          rw [HS.out]
          rw [show ticks + ((Cf.pwN s at_ zs k).2.1 + pt) = ticks + (Cf.pwN s at_ zs k).2.1 + pt by omega]
          exact this⟩
        case measure => simp [intOf]; omega
      · have hb1 : (pe != 0) = true := by simpa using he
        have hb2 : (pe == 0) = false := by simpa using he
        have HE := Lib.hid he
        clear he
        go_wp2_with (go_at_call 36; refine hword.mono ?_; rintro x w5 ⟨rfl, p⟩; clear hword)
        go_ret
        have e9 : Cf.pws s at_ zs = (pe, (Cf.pwN s at_ zs k).2.1 + pt, ps) := by
          unfold Cf.pws
          rw [show zs.length = (k + 1) + (zs.length - (k + 1)) by omega, Cf.pwN_stop (by rw [HS.out]; exact HE.out), HS.out]
        rw [e9]
        refine ⟨rfl, ?_⟩
        have := HB.out w5 _ _ p
        show Post _ _ _ _ _ _ _ _ _ (ticks + ((Cf.pwN s at_ zs k).2.1 + pt)) ps w5
        rw [show ticks + ((Cf.pwN s at_ zs k).2.1 + pt) = ticks + (Cf.pwN s at_ zs k).2.1 + pt by omega]
        exact Post.back h0 KW this
    · obtain rfl : k = zs.length := by omega
      have hlt2 : (zs.length : Int) ≤ (zs.length : Int) := Int.le_refl _
      have HZ := Lib.hid hz0
      have HP := Lib.hid hp
      clear hz0 hp
      go_wp2
      go_ret
      refine ⟨ret_int HZ.out.symm, Post.back h0 KW HP.out⟩
end
end Drv
end Go.Proofs.Ytfghlfolejpjjaa
