/- Contracts of package driver (10): Read, New; drivers that no call made; dioptralaw05.Begin. -/
import Derived.Test.YtfghlfolejpjjaaDrv9
namespace Go.Proofs.Ytfghlfolejpjjaa
open Go.RowKit
set_option linter.unusedVariables false
attribute [local go_sem] max2_int min2_int max_two min_two
namespace Drv
section
variable {S : Nat → Prop} {w0 w w' : World} {dd gf g bw be : Nat} {blocks ticks : Int} {s s' : Cf.Fl}
set_option maxHeartbeats 1000000 in
set_option maxRecDepth 100000 in
theorem read_bad (h : DrvAt S w0 w dd gf g bw be blocks ticks s) {at_ : Int} {n : Nat} (n1 : 1 ≤ n) (n2 : n ≤ 64) {e : Int} (hw : Hid (Cf.wrong s at_ = e)) (he : ¬ e = 0) :
    Calls Try.prog 16 #[.pointer (some ⟨dd, 0, none⟩), .int .i64 at_, .int .i64 n] w fun x w' => x = .returned (.tuple #[.slice none 0 0, .int .i64 e]) ∧ Post S w0 w dd gf g bw be blocks ticks s w' := by
  have hb1 : (e != 0) = true := by simpa using he
  have hb2 : (e == 0) = false := by simpa using he
  have q : Hid (Cf.write s at_ 255 = (e, s)) := by
    have := hw.out
    show Cf.write s at_ 255 = _
    unfold Cf.write; rw [this, if_neg he]
  have hW := h.then ((Below.refl _ w).alloc (Nat.le_refl _) (.cells #[.int .u32 255] 34))
  have KW := (Keep.refl (Mine S dd) w).alloc (.cells #[.int .u32 255] 34)
  have cx := World.cell?_alloc_mark w #[.int .u32 255] 34 (0, 0) 0
  have m1 : (1 : Int) ≤ n := by omega
  have m2 : (n : Int) ≤ 64 := by omega
  have h0 := h
  clear he
  go_enter Try.func16, Try.ntmps16
  go_wp2_with (first | (go_at_call 35; refine (good_c h).mono ?_; rintro e w' ⟨rfl, rfl⟩) | (go_at_call 38; refine (write1_c hW (by decide) (by decide) cx q).mono ?_; rintro e w5 ⟨rfl, p1, p2⟩; clear hW))
  go_ret2
  exact ⟨rfl, Post.back h0 KW ⟨p1, p2⟩⟩
theorem read_0 (h : DrvAt S w0 w dd gf g bw be blocks ticks s) (at_ : Int) :
    Calls Try.prog 16 #[.pointer (some ⟨dd, 0, none⟩), .int .i64 at_, .int .i64 0] w fun x w' => x = .returned (.tuple #[.slice none 0 0, .int .i64 0]) ∧ w = w' := by
  go_enter Try.func16, Try.ntmps16
  go_wp2_with (first | (go_at_call 35; refine (good_c h).mono ?_; rintro e w' ⟨rfl, rfl⟩))
  go_ret2
  exact ⟨rfl, rfl⟩
theorem _root_.Go.Proofs.Ytfghlfolejpjjaa.DrvAt.other {Q : Nat → Prop} (h : DrvAt S w0 w dd gf g bw be blocks ticks s) (hK : Keep Q w w') (hQ : ∀ k, S k → ¬ Q k) (hd : ¬ Q dd) (hQ0 : ∀ k, Q k → w0.heap.size ≤ k) : DrvAt S w0 w' dd gf g bw be blocks ticks s :=
  ⟨h.fl.other hK hQ hQ0, h.ld, h.nd, (hK.block dd h.lt hd).trans h.head⟩
/-- A row of so many words, of which the first are these. -/
def RowN (w : World) (r n : Nat) (zs : List Int) : Prop := ∃ cur : Array Value, w.heap[r]? = some (.cells cur 34 (0, 0)) ∧ cur.size = n ∧ ∀ i, i < zs.length → cur[i]? = some (.int .u32 (zs.getD i 0))
set_option maxHeartbeats 2000000 in
set_option maxRecDepth 100000 in
theorem read_ok (h : DrvAt S w0 w dd gf g bw be blocks ticks s) (hc : Cf.Calm s) {at_ n : Nat} (n1 : 1 ≤ n) (n2 : n ≤ 64) (hin : at_ + n ≤ s.c.words.length) (hoff : s.c.off = false) {zs : List Int} (hl : zs.length = n) (hzs : Hid (∀ i, i < n → zs.getD i 0 = s.c.words.getD (at_ + i) 0)) :
    Calls Try.prog 16 #[.pointer (some ⟨dd, 0, none⟩), .int .i64 at_, .int .i64 n] w fun x w' => ∃ r S', x = .returned (.tuple #[.slice (some ⟨r, 0, none⟩) n n, .int .i64 0]) ∧ w.heap.size ≤ r ∧ Row w' r zs ∧ DrvAt S' w0 w' dd gf g bw be blocks ticks { s with mode := 0 } ∧ (∀ k, S' k → Sx S w w' k) ∧ ¬ Mine S' dd r ∧ Keep (Mine S dd) w w' := by
  have hat : (at_ : Int) ≤ 4096 := by have := h.fl.own.chip.ok.size; have := h.fl.own.chip.ok.most; omega
  have hmk := run_make_row' (P := Try.prog) 22 34 (.int .u32 0) 4 Sl.under32 Sl.info32 rfl .i64 .i64 n (by omega) (by omega)
  have hw : ∀ m : Nat, m < s.c.words.length → Cf.wrong s m = 0 := fun m hm => Cf.wrong_in hoff (by have := h.fl.own.chip.ok.size; omega)
  have q : Hid (Cf.write s at_ 255 = (0, { s with mode := 0 })) := (Cf.write_cmd (hw at_ (by omega)) hc.job hc.wait).trans rfl
  have hrd : Hid (∀ i : Nat, i < n → Cf.read { s with mode := 0 } ((at_ : Int) + (i : Int)) = (s.c.words.getD (at_ + i) 0, 0)) := fun i hi => by
    have := Cf.read_none (s := { s with mode := 0 }) (at_ := ((at_ + i : Nat) : Int)) (hw (at_ + i) (by omega)) hc.job
    rw [show ((at_ + i : Nat) : Int) = (at_ : Int) + (i : Int) by omega] at this
    rw [this]
    refine congrArg (·, (0 : Int)) ((if_pos rfl).trans ?_)
    rw [show ((at_ : Int) + (i : Int)).toNat = at_ + i by omega]
  have hW := h.then ((Below.refl _ w).alloc (Nat.le_refl _) (.cells #[.int .u32 255] 34))
  have KW := (Keep.refl (Mine S dd) w).alloc (.cells #[.int .u32 255] 34)
  have cx := World.cell?_alloc_mark w #[.int .u32 255] 34 (0, 0) 0
  have m1 : (1 : Int) ≤ n := by omega
  have m2 : (n : Int) ≤ 64 := by omega
  have h0 := h
  go_enter Try.func16, Try.ntmps16
  go_wp2_with (first | (go_at_call 35; refine (good_c h).mono ?_; rintro e w' ⟨rfl, rfl⟩) | (go_at_call 38; refine (write1_c hW (by decide) (by decide) cx q).mono ?_; rintro e w5 ⟨rfl, p1, p2⟩; clear hW))
  have hs5 := p2.size
  have e51 : (w.alloc (.cells #[.int .u32 255] 34)).heap.size = w.heap.size + 1 := by simp
  have old := h0.old
  have nR : ∀ k, Sx S (w.alloc (.cells #[.int .u32 255] 34)) w5 k → ¬ k = w5.heap.size := fun k hk e => by have := p1.fl.hi k hk; omega
  have nd : ¬ dd = w5.heap.size := by have := p1.lt; omega
  have D6 := p1.then ((Below.refl _ w5).alloc (Nat.le_refl _) (.cells (madeCells #[.int .u32 0] n) 34))
  have e6 : (w5.alloc (.cells (madeCells #[.int .u32 0] n) 34)).heap.size = w5.heap.size + 1 := by simp
  go_loopw [38] (fun i wr => ∃ k : Nat, k ≤ n ∧ i = .int .i64 k ∧ DrvAt (Sx S (w.alloc (.cells #[.int .u32 255] 34)) w5) w0 wr dd gf g bw be blocks ticks { s with mode := 0 } ∧ Keep (fun b => b = w5.heap.size) (w5.alloc (.cells (madeCells #[.int .u32 0] n) 34)) wr ∧
    ∃ cur : Array Value, wr.heap[w5.heap.size]? = some (.cells cur 34 (0, 0)) ∧ cur.size = n ∧ ∀ i, i < k → cur[i]? = some (.int .u32 (zs.getD i 0))) (fun i _ => n - (intOf i).toNat)
  case atStart => exact ⟨0, Nat.zero_le _, rfl, D6, Keep.refl _ _, _, heap_alloc_new w5 _, by simp [madeCells], fun i hi => absurd hi (by omega)⟩
  case round =>
    obtain ⟨k, hk, rfl, hD, hKr, cur, hg, hsz, hcu⟩ := hrel
    by_cases hlt : k < n
    · have hlt2 : (k : Int) < (n : Int) := by omega
      have hq := Lib.hid (hrd.out k hlt)
      have hzk := hzs.out k hlt
      generalize s.c.words.getD (at_ + k) 0 = x at hq hzk
      obtain ⟨c0, c1, c2⟩ := hD.cells
      have hgl : w5.heap.size < wr.heap.size := (Array.getElem?_eq_some_iff.1 hg).1
      have HD := Lib.hid hD
      have HG := Lib.hid hg
      have HKR := Lib.hid hKr
      have HCU := Lib.hid hcu
      have HZK := Lib.hid hzk
      have HF : Hid (∀ w6 : World, Below wr.heap.size wr w6 → w6.cell? ⟨w5.heap.size, k, none⟩ = some (cur[k]'(by omega)) ∧ w6.frozen? ⟨w5.heap.size, k, none⟩ = false ∧ w6.heap[w5.heap.size]? = some (.cells cur 34 (0, 0))) := fun w6 hb => by
        have e := (hb.block _ hgl).trans hg
        refine ⟨?_, ?_, e⟩
        · simp only [World.cell?, e]; simp [show k < cur.size by omega]
        · simp only [World.frozen?, e]; simp
      clear hD hg hKr hcu hzk D6
      go_wp2_with (first | (go_at_call 43; refine (flash_read HD.out hq).mono ?_; rintro y w6 ⟨rfl, p3, p4⟩; clear HD; obtain ⟨f1, f2, f3⟩ := HF.out w6 p4))
      go_roundw
      case rel =>
        have K6 := (Keep.refl (fun b => b = w5.heap.size) w6).setCell (p := ⟨w5.heap.size, k, none⟩) (.inl rfl) (.int .u32 x)
        refine ⟨k + 1, by omega, by go_num, p3.other K6 nR nd (fun b e => by omega), (HKR.out.below ⟨p4.os, p4.tape, p4.output, p4.size, p4.block⟩).trans K6, _, heap_set f3 k _, by simpa using hsz, fun i hi => ?_⟩
        by_cases e : k = i
        · subst e
          have : k < cur.size := by omega
          rw [HZK.out]; simp [this]
        · rw [Array.getElem?_setIfInBounds_ne e]; exact HCU.out i (by omega)
      case measure => simp [intOf]; omega
    · obtain rfl : k = n := by omega
      have hlt2 : (k : Int) ≤ (k : Int) := Int.le_refl _
      have HD := Lib.hid hD
      have HG := Lib.hid hg
      have HKR := Lib.hid hKr
      have HCU := Lib.hid hcu
      clear hD hg hKr hcu D6
      go_wp2
      go_ret2
      have s6 := HKR.out.size
      have KA : Keep (Mine S dd) w wr := (KW.trans p2).trans' (((Keep.refl (fun b => b = w5.heap.size) w5).alloc _).trans HKR.out) (fun b hb _ e => by omega)
      exact ⟨_, _, rfl, by omega, ⟨cur, HG.out, fun i hi => HCU.out i (by omega)⟩, HD.out, (fun b hb => hb.elim .inl (fun e => .inr ⟨by omega, by omega⟩)), (fun e => e.elim (fun e => nR _ e rfl) (fun e => nd e.symm)), KA⟩
end
end Drv
end Go.Proofs.Ytfghlfolejpjjaa
