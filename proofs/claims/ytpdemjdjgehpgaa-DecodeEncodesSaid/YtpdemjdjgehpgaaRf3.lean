/- Contract of dioptraref11.Word. -/
import Derived.Test.YtpdemjdjgehpgaaRf2
namespace Go.Proofs.Ytpdemjdjgehpgaa
open Go.RowKit Dc
set_option linter.unusedVariables false
set_option linter.unusedSimpArgs false
namespace Rf
open Dec
theorem heap_old {W : World} {b : Nat} {o : Obj} (q : Obj) (h : W.heap[b]? = some o) : (W.alloc q).heap[b]? = some o := ((alloc1_below W q).block b (heap_lt h)).trans h
theorem combos : ∀ c ∈ letters, ((frm c).d = true ∧ (frm c).r1 = false ∧ (frm c).r2 = false) ∨ ((frm c).d = true ∧ (frm c).r1 = true ∧ (frm c).r2 = false) ∨ ((frm c).d = false ∧ (frm c).r1 = true ∧ (frm c).r2 = true) ∨ ((frm c).d = true ∧ (frm c).r1 = true ∧ (frm c).r2 = true) ∨ ((frm c).d = false ∧ (frm c).r1 = false ∧ (frm c).r2 = false) := by decide +kernel
set_option maxHeartbeats 4000000 in
set_option maxRecDepth 100000 in
theorem word_r (x : Int) (w : World) (hx : 0 ≤ x) (hx' : x < 4294967296) (rs : Option Dc.Op) (hrs : Hid (word x = rs)) :
    Calls Try.prog 11 #[.int .u32 x] w fun e w' => e = .returned (wordv rs) ∧ Below w.heap.size w w' := by
  have hfs : forms.size = 69 := rfl
  have hmax : (9223372036854775807 : Int) ≥ 69 := by decide
  go_enter Try.func11, Try.ntmps11
  go_wp2_with (go_at_call 21; refine (patterns_c _).mono ?_; rintro e w1 ⟨g, rfl, R, b1⟩)
  obtain ⟨E, b2⟩ := alloc1_then b1
  clear b1
  go_loopw [5] (fun iv wr => ∃ j : Nat, j ≤ 69 ∧ iv = .int .i64 j ∧ Below w1.heap.size w1 wr ∧ Hid (wordFrom (rows.drop j) j x = rs)) (fun i _ => 69 - (intOf i).toNat)
  case atStart => exact ⟨0, by omega, rfl, Below.refl _ _, hrs⟩
  case round =>
    obtain ⟨j, hj, rfl, hB, hE⟩ := hrel
    by_cases hlt : j < 69
    · have hlt2 : (j : Int) < 69 := by omega
      have hjf : j < forms.size := by rw [hfs]; exact hlt
      have hfj : (((forms[j]'hjf).toNat : Nat) : Int) = ((row j).2 : Int) := by rw [form_at j hlt]
      have c0 := (R.below hB) j hlt
      have hE2 := hE.out
      rw [wordFrom_drop j hlt] at hE2
      have hlet := row_letter j hlt
      have hrr := row_rng j hlt
      have hsame := same_hit j hlt x hx hx'
      have IM := fun W => imm_c _ hlet x W hx hx'
      rw [imm_eq _ hlet] at IM
      have MK : ∀ W, Calls Try.prog 24 #[.int .u8 ((row j).2 : Int)] W fun e w' => e = .returned (.int .u32 (frm (row j).2).mask) ∧ W = w' := fun W => (mask_c _ hlet W).mono (fun _ _ ⟨a, b⟩ => ⟨a, b.symm⟩)
      have mr := mask_rng _ hlet
      have SM : ∀ q, Hid (allFrom x (row j).1 (frm (row j).2).mask 0 = q) → ∀ W, Calls Try.prog 23 #[.int .u32 x, .int .u32 (row j).1, .int .u32 (frm (row j).2).mask] W fun e w' => e = .returned (.bool q) ∧ W = w' := fun q hq W => (same_r x _ _ W hx hx' hrr.1 hrr.2 mr.1 mr.2 q hq).mono (fun _ _ ⟨a, b⟩ => ⟨a, b.symm⟩)
      have D1 := hs1 _ hlet
      have D2 := hs2 _ hlet
      have D3 := hs3 _ hlet
      have hcb := combos _ hlet
      have FA := fun i W h => Ref1.field_c x i 5 W hx hx' h
      by_cases hh : hit (row j) x = true
      · rw [if_pos hh] at hE2
        have SM2 := SM true (by show _ = _; rw [hsame, hh])
        clear SM hE hsame mr hh
        obtain ⟨oo, hoo⟩ : ∃ oo, Hid (opOf (frm (row j).2) ((j + 1 : Nat) : Int) x = oo) := ⟨_, rfl⟩
        rw [hoo.out] at hE2
        subst hE2
        have hnm : oo.name = (j : Int) + 1 := by rw [← hoo.out]; show ((j + 1 : Nat) : Int) = _; omega
        have him : oo.imm = number (frm (row j).2) x := by rw [← hoo.out]; rfl
        rw [← him] at IM
        obtain ⟨pt_, hpt⟩ : ∃ p, (row j).1 = p := ⟨_, rfl⟩
        rw [hpt] at c0 SM2 hrr
        go_wp2_with (go_at_call 22; refine (forms_c _).mono ?_; rintro e w' ⟨rfl, hw⟩; obtain rfl := hw.symm)
        go_quiet (first | (go_at_call 24; first | exact quiet_add_is (MK _) | exact quiet_is (MK _)) | (go_at_call 23; first | exact quiet_add_is (SM2 _) | exact quiet_is (SM2 _)))
        obtain ⟨WQ, hWQ⟩ : ∃ WQ, WQ = wr.drewN nq := ⟨_, rfl⟩
        rw [← hWQ]
        have BQ : Below w1.heap.size w1 WQ := hWQ ▸ Go.Proofs.Ytpdemjdjgehpgaa.Below.drewN' hB nq
        have E4 := (BQ.block _ (heap_lt E)).trans E
        have Z0 := fun q => (cells5 (heap_old q E4)).1
        have Z1 := fun q => (cells5 (heap_old q E4)).2.1
        have Z2 := fun q => (cells5 (heap_old q E4)).2.2.1
        have Z3 := fun q => (cells5 (heap_old q E4)).2.2.2.1
        have Z4 := fun q => (cells5 (heap_old q E4)).2.2.2.2.1
        have ZF := fun q => (cells5 (heap_old q E4)).2.2.2.2.2
        have e7 : wrap64 (Bt.field x 7 5) = Bt.field x 7 5 := by have := Bt.field_rng x 7 5; unfold wrap64; omega
        have e15 : wrap64 (Bt.field x 15 5) = Bt.field x 15 5 := by have := Bt.field_rng x 15 5; unfold wrap64; omega
        have e20 : wrap64 (Bt.field x 20 5) = Bt.field x 20 5 := by have := Bt.field_rng x 20 5; unfold wrap64; omega
        clear hWQ hB him
        obtain ⟨hd, h1, h2⟩ | ⟨hd, h1, h2⟩ | ⟨hd, h1, h2⟩ | ⟨hd, h1, h2⟩ | ⟨hd, h1, h2⟩ := hcb
        · rw [hd] at D1
          rw [h1] at D2
          rw [h2] at D3
          have HA := fun W => has_r ⟨#[85, 74, 73, 82, 72, 65, 76, 70, 67]⟩ ((row j).2 : Int) W (by decide) true D1
          have HB := fun W => has_r ⟨#[73, 66, 83, 82, 72, 65, 76, 70, 86, 67]⟩ ((row j).2 : Int) W (by decide) false D2
          have HC := fun W => has_r ⟨#[66, 83, 82, 65, 86]⟩ ((row j).2 : Int) W (by decide) false D3
          have eo : oo = ⟨(j : Int) + 1, Bt.field x 7 5, 0, 0, oo.imm⟩ := by
            have q1 : oo.rd = Bt.field x 7 5 := by rw [← hoo.out]; simp [opOf, hd]
            have q2 : oo.r1 = 0 := by rw [← hoo.out]; simp [opOf, h1]
            have q3 : oo.r2 = 0 := by rw [← hoo.out]; simp [opOf, h2]
            show Dc.Op.mk oo.name oo.rd oo.r1 oo.r2 oo.imm = _
            rw [q1, q2, q3, hnm]
          replace eo := Lib.hid eo
          clear D1 D2 D3 hoo MK SM2 hd h1 h2
          go_wp2_with (first | (go_at_call 25; refine (IM _).mono ?_; rintro e w' ⟨rfl, hw⟩; obtain rfl := hw.symm) | (go_at_call 26; (first | with_reducible refine (HA _).mono ?_ | with_reducible refine (HB _).mono ?_ | with_reducible refine (HC _).mono ?_); rintro e w' ⟨rfl, hw⟩; obtain rfl := hw.symm) | (go_at_call 27; refine (FA _ _ (by show (-9223372036854775808 : Int) ≤ _; decide)).mono ?_; rintro e w' ⟨rfl, rfl⟩))
          have hz := set5 (heap_old (.cells #[(.int .i64 ((j : Int) + 1)), (.int .i64 (Bt.field x 7 5)), (.int .i64 0), (.int .i64 0), (.int .u32 oo.imm)] 28) E4) (.int .i64 ((j : Int) + 1)) (.int .i64 (Bt.field x 7 5)) (.int .i64 0) (.int .i64 0) (.int .u32 oo.imm)
          have hb := set5_below (below_al (Below.then b2 BQ) (.cells #[(.int .i64 ((j : Int) + 1)), (.int .i64 (Bt.field x 7 5)), (.int .i64 0), (.int .i64 0), (.int .u32 oo.imm)] 28)) (Nat.le_refl w.heap.size) (.int .i64 ((j : Int) + 1)) (.int .i64 (Bt.field x 7 5)) (.int .i64 0) (.int .i64 0) (.int .u32 oo.imm)
          generalize ((((((WQ.alloc (.cells #[(.int .i64 ((j : Int) + 1)), (.int .i64 (Bt.field x 7 5)), (.int .i64 0), (.int .i64 0), (.int .u32 oo.imm)] 28)).setCell ⟨w.heap.size, 0, none⟩ (.int .i64 ((j : Int) + 1))).setCell ⟨w.heap.size, 1, none⟩ (.int .i64 (Bt.field x 7 5))).setCell ⟨w.heap.size, 2, none⟩ (.int .i64 0)).setCell ⟨w.heap.size, 3, none⟩ (.int .i64 0)).setCell ⟨w.heap.size, 4, none⟩ (.int .u32 oo.imm)) = WW at *
          clear Z0 Z1 Z2 Z3 Z4 ZF
          obtain ⟨z0, z1, z2, z3, z4, _⟩ := cells5 hz
          refine bodyPost_ret (v := .tuple #[.agg #[(.int .i64 ((j : Int) + 1)), (.int .i64 (Bt.field x 7 5)), (.int .i64 0), (.int .i64 0), (.int .u32 oo.imm)], .bool true]) ?_ rfl ⟨?_, hb⟩
          · simp [results, Try.results11, go_sem, z0, z1, z2, z3, z4]
          · exact congrArg (fun z => Ending.returned (.tuple #[z, .bool true])) (by rw [eo.out]; rfl)
        · rw [hd] at D1
          rw [h1] at D2
          rw [h2] at D3
          have HA := fun W => has_r ⟨#[85, 74, 73, 82, 72, 65, 76, 70, 67]⟩ ((row j).2 : Int) W (by decide) true D1
          have HB := fun W => has_r ⟨#[73, 66, 83, 82, 72, 65, 76, 70, 86, 67]⟩ ((row j).2 : Int) W (by decide) true D2
          have HC := fun W => has_r ⟨#[66, 83, 82, 65, 86]⟩ ((row j).2 : Int) W (by decide) false D3
          have eo : oo = ⟨(j : Int) + 1, Bt.field x 7 5, Bt.field x 15 5, 0, oo.imm⟩ := by
            have q1 : oo.rd = Bt.field x 7 5 := by rw [← hoo.out]; simp [opOf, hd]
            have q2 : oo.r1 = Bt.field x 15 5 := by rw [← hoo.out]; simp [opOf, h1]
            have q3 : oo.r2 = 0 := by rw [← hoo.out]; simp [opOf, h2]
            show Dc.Op.mk oo.name oo.rd oo.r1 oo.r2 oo.imm = _
            rw [q1, q2, q3, hnm]
          replace eo := Lib.hid eo
          clear D1 D2 D3 hoo MK SM2 hd h1 h2
          go_wp2_with (first | (go_at_call 25; refine (IM _).mono ?_; rintro e w' ⟨rfl, hw⟩; obtain rfl := hw.symm) | (go_at_call 26; (first | with_reducible refine (HA _).mono ?_ | with_reducible refine (HB _).mono ?_ | with_reducible refine (HC _).mono ?_); rintro e w' ⟨rfl, hw⟩; obtain rfl := hw.symm) | (go_at_call 27; refine (FA _ _ (by show (-9223372036854775808 : Int) ≤ _; decide)).mono ?_; rintro e w' ⟨rfl, rfl⟩))
          have hz := set5 (heap_old (.cells #[(.int .i64 ((j : Int) + 1)), (.int .i64 (Bt.field x 7 5)), (.int .i64 (Bt.field x 15 5)), (.int .i64 0), (.int .u32 oo.imm)] 28) E4) (.int .i64 ((j : Int) + 1)) (.int .i64 (Bt.field x 7 5)) (.int .i64 (Bt.field x 15 5)) (.int .i64 0) (.int .u32 oo.imm)
          have hb := set5_below (below_al (Below.then b2 BQ) (.cells #[(.int .i64 ((j : Int) + 1)), (.int .i64 (Bt.field x 7 5)), (.int .i64 (Bt.field x 15 5)), (.int .i64 0), (.int .u32 oo.imm)] 28)) (Nat.le_refl w.heap.size) (.int .i64 ((j : Int) + 1)) (.int .i64 (Bt.field x 7 5)) (.int .i64 (Bt.field x 15 5)) (.int .i64 0) (.int .u32 oo.imm)
          generalize ((((((WQ.alloc (.cells #[(.int .i64 ((j : Int) + 1)), (.int .i64 (Bt.field x 7 5)), (.int .i64 (Bt.field x 15 5)), (.int .i64 0), (.int .u32 oo.imm)] 28)).setCell ⟨w.heap.size, 0, none⟩ (.int .i64 ((j : Int) + 1))).setCell ⟨w.heap.size, 1, none⟩ (.int .i64 (Bt.field x 7 5))).setCell ⟨w.heap.size, 2, none⟩ (.int .i64 (Bt.field x 15 5))).setCell ⟨w.heap.size, 3, none⟩ (.int .i64 0)).setCell ⟨w.heap.size, 4, none⟩ (.int .u32 oo.imm)) = WW at *
          clear Z0 Z1 Z2 Z3 Z4 ZF
          obtain ⟨z0, z1, z2, z3, z4, _⟩ := cells5 hz
          refine bodyPost_ret (v := .tuple #[.agg #[(.int .i64 ((j : Int) + 1)), (.int .i64 (Bt.field x 7 5)), (.int .i64 (Bt.field x 15 5)), (.int .i64 0), (.int .u32 oo.imm)], .bool true]) ?_ rfl ⟨?_, hb⟩
          · simp [results, Try.results11, go_sem, z0, z1, z2, z3, z4]
          · exact congrArg (fun z => Ending.returned (.tuple #[z, .bool true])) (by rw [eo.out]; rfl)
        · rw [hd] at D1
          rw [h1] at D2
          rw [h2] at D3
          have HA := fun W => has_r ⟨#[85, 74, 73, 82, 72, 65, 76, 70, 67]⟩ ((row j).2 : Int) W (by decide) false D1
          have HB := fun W => has_r ⟨#[73, 66, 83, 82, 72, 65, 76, 70, 86, 67]⟩ ((row j).2 : Int) W (by decide) true D2
          have HC := fun W => has_r ⟨#[66, 83, 82, 65, 86]⟩ ((row j).2 : Int) W (by decide) true D3
          have eo : oo = ⟨(j : Int) + 1, 0, Bt.field x 15 5, Bt.field x 20 5, oo.imm⟩ := by
            have q1 : oo.rd = 0 := by rw [← hoo.out]; simp [opOf, hd]
            have q2 : oo.r1 = Bt.field x 15 5 := by rw [← hoo.out]; simp [opOf, h1]
            have q3 : oo.r2 = Bt.field x 20 5 := by rw [← hoo.out]; simp [opOf, h2]
            show Dc.Op.mk oo.name oo.rd oo.r1 oo.r2 oo.imm = _
            rw [q1, q2, q3, hnm]
          replace eo := Lib.hid eo
          clear D1 D2 D3 hoo MK SM2 hd h1 h2
          go_wp2_with (first | (go_at_call 25; refine (IM _).mono ?_; rintro e w' ⟨rfl, hw⟩; obtain rfl := hw.symm) | (go_at_call 26; (first | with_reducible refine (HA _).mono ?_ | with_reducible refine (HB _).mono ?_ | with_reducible refine (HC _).mono ?_); rintro e w' ⟨rfl, hw⟩; obtain rfl := hw.symm) | (go_at_call 27; refine (FA _ _ (by show (-9223372036854775808 : Int) ≤ _; decide)).mono ?_; rintro e w' ⟨rfl, rfl⟩))
          have hz := set5 (heap_old (.cells #[(.int .i64 ((j : Int) + 1)), (.int .i64 0), (.int .i64 (Bt.field x 15 5)), (.int .i64 (Bt.field x 20 5)), (.int .u32 oo.imm)] 28) E4) (.int .i64 ((j : Int) + 1)) (.int .i64 0) (.int .i64 (Bt.field x 15 5)) (.int .i64 (Bt.field x 20 5)) (.int .u32 oo.imm)
          have hb := set5_below (below_al (Below.then b2 BQ) (.cells #[(.int .i64 ((j : Int) + 1)), (.int .i64 0), (.int .i64 (Bt.field x 15 5)), (.int .i64 (Bt.field x 20 5)), (.int .u32 oo.imm)] 28)) (Nat.le_refl w.heap.size) (.int .i64 ((j : Int) + 1)) (.int .i64 0) (.int .i64 (Bt.field x 15 5)) (.int .i64 (Bt.field x 20 5)) (.int .u32 oo.imm)
          generalize ((((((WQ.alloc (.cells #[(.int .i64 ((j : Int) + 1)), (.int .i64 0), (.int .i64 (Bt.field x 15 5)), (.int .i64 (Bt.field x 20 5)), (.int .u32 oo.imm)] 28)).setCell ⟨w.heap.size, 0, none⟩ (.int .i64 ((j : Int) + 1))).setCell ⟨w.heap.size, 1, none⟩ (.int .i64 0)).setCell ⟨w.heap.size, 2, none⟩ (.int .i64 (Bt.field x 15 5))).setCell ⟨w.heap.size, 3, none⟩ (.int .i64 (Bt.field x 20 5))).setCell ⟨w.heap.size, 4, none⟩ (.int .u32 oo.imm)) = WW at *
          clear Z0 Z1 Z2 Z3 Z4 ZF
          obtain ⟨z0, z1, z2, z3, z4, _⟩ := cells5 hz
          refine bodyPost_ret (v := .tuple #[.agg #[(.int .i64 ((j : Int) + 1)), (.int .i64 0), (.int .i64 (Bt.field x 15 5)), (.int .i64 (Bt.field x 20 5)), (.int .u32 oo.imm)], .bool true]) ?_ rfl ⟨?_, hb⟩
          · simp [results, Try.results11, go_sem, z0, z1, z2, z3, z4]
          · exact congrArg (fun z => Ending.returned (.tuple #[z, .bool true])) (by rw [eo.out]; rfl)
        · rw [hd] at D1
          rw [h1] at D2
          rw [h2] at D3
          have HA := fun W => has_r ⟨#[85, 74, 73, 82, 72, 65, 76, 70, 67]⟩ ((row j).2 : Int) W (by decide) true D1
          have HB := fun W => has_r ⟨#[73, 66, 83, 82, 72, 65, 76, 70, 86, 67]⟩ ((row j).2 : Int) W (by decide) true D2
          have HC := fun W => has_r ⟨#[66, 83, 82, 65, 86]⟩ ((row j).2 : Int) W (by decide) true D3
          have eo : oo = ⟨(j : Int) + 1, Bt.field x 7 5, Bt.field x 15 5, Bt.field x 20 5, oo.imm⟩ := by
            have q1 : oo.rd = Bt.field x 7 5 := by rw [← hoo.out]; simp [opOf, hd]
            have q2 : oo.r1 = Bt.field x 15 5 := by rw [← hoo.out]; simp [opOf, h1]
            have q3 : oo.r2 = Bt.field x 20 5 := by rw [← hoo.out]; simp [opOf, h2]
            show Dc.Op.mk oo.name oo.rd oo.r1 oo.r2 oo.imm = _
            rw [q1, q2, q3, hnm]
          replace eo := Lib.hid eo
          clear D1 D2 D3 hoo MK SM2 hd h1 h2
          go_wp2_with (first | (go_at_call 25; refine (IM _).mono ?_; rintro e w' ⟨rfl, hw⟩; obtain rfl := hw.symm) | (go_at_call 26; (first | with_reducible refine (HA _).mono ?_ | with_reducible refine (HB _).mono ?_ | with_reducible refine (HC _).mono ?_); rintro e w' ⟨rfl, hw⟩; obtain rfl := hw.symm) | (go_at_call 27; refine (FA _ _ (by show (-9223372036854775808 : Int) ≤ _; decide)).mono ?_; rintro e w' ⟨rfl, rfl⟩))
          have hz := set5 (heap_old (.cells #[(.int .i64 ((j : Int) + 1)), (.int .i64 (Bt.field x 7 5)), (.int .i64 (Bt.field x 15 5)), (.int .i64 (Bt.field x 20 5)), (.int .u32 oo.imm)] 28) E4) (.int .i64 ((j : Int) + 1)) (.int .i64 (Bt.field x 7 5)) (.int .i64 (Bt.field x 15 5)) (.int .i64 (Bt.field x 20 5)) (.int .u32 oo.imm)
          have hb := set5_below (below_al (Below.then b2 BQ) (.cells #[(.int .i64 ((j : Int) + 1)), (.int .i64 (Bt.field x 7 5)), (.int .i64 (Bt.field x 15 5)), (.int .i64 (Bt.field x 20 5)), (.int .u32 oo.imm)] 28)) (Nat.le_refl w.heap.size) (.int .i64 ((j : Int) + 1)) (.int .i64 (Bt.field x 7 5)) (.int .i64 (Bt.field x 15 5)) (.int .i64 (Bt.field x 20 5)) (.int .u32 oo.imm)
          generalize ((((((WQ.alloc (.cells #[(.int .i64 ((j : Int) + 1)), (.int .i64 (Bt.field x 7 5)), (.int .i64 (Bt.field x 15 5)), (.int .i64 (Bt.field x 20 5)), (.int .u32 oo.imm)] 28)).setCell ⟨w.heap.size, 0, none⟩ (.int .i64 ((j : Int) + 1))).setCell ⟨w.heap.size, 1, none⟩ (.int .i64 (Bt.field x 7 5))).setCell ⟨w.heap.size, 2, none⟩ (.int .i64 (Bt.field x 15 5))).setCell ⟨w.heap.size, 3, none⟩ (.int .i64 (Bt.field x 20 5))).setCell ⟨w.heap.size, 4, none⟩ (.int .u32 oo.imm)) = WW at *
          clear Z0 Z1 Z2 Z3 Z4 ZF
          obtain ⟨z0, z1, z2, z3, z4, _⟩ := cells5 hz
          refine bodyPost_ret (v := .tuple #[.agg #[(.int .i64 ((j : Int) + 1)), (.int .i64 (Bt.field x 7 5)), (.int .i64 (Bt.field x 15 5)), (.int .i64 (Bt.field x 20 5)), (.int .u32 oo.imm)], .bool true]) ?_ rfl ⟨?_, hb⟩
          · simp [results, Try.results11, go_sem, z0, z1, z2, z3, z4]
          · exact congrArg (fun z => Ending.returned (.tuple #[z, .bool true])) (by rw [eo.out]; rfl)
        · rw [hd] at D1
          rw [h1] at D2
          rw [h2] at D3
          have HA := fun W => has_r ⟨#[85, 74, 73, 82, 72, 65, 76, 70, 67]⟩ ((row j).2 : Int) W (by decide) false D1
          have HB := fun W => has_r ⟨#[73, 66, 83, 82, 72, 65, 76, 70, 86, 67]⟩ ((row j).2 : Int) W (by decide) false D2
          have HC := fun W => has_r ⟨#[66, 83, 82, 65, 86]⟩ ((row j).2 : Int) W (by decide) false D3
          have eo : oo = ⟨(j : Int) + 1, 0, 0, 0, oo.imm⟩ := by
            have q1 : oo.rd = 0 := by rw [← hoo.out]; simp [opOf, hd]
            have q2 : oo.r1 = 0 := by rw [← hoo.out]; simp [opOf, h1]
            have q3 : oo.r2 = 0 := by rw [← hoo.out]; simp [opOf, h2]
            show Dc.Op.mk oo.name oo.rd oo.r1 oo.r2 oo.imm = _
            rw [q1, q2, q3, hnm]
          replace eo := Lib.hid eo
          clear D1 D2 D3 hoo MK SM2 hd h1 h2
          go_wp2_with (first | (go_at_call 25; refine (IM _).mono ?_; rintro e w' ⟨rfl, hw⟩; obtain rfl := hw.symm) | (go_at_call 26; (first | with_reducible refine (HA _).mono ?_ | with_reducible refine (HB _).mono ?_ | with_reducible refine (HC _).mono ?_); rintro e w' ⟨rfl, hw⟩; obtain rfl := hw.symm) | (go_at_call 27; refine (FA _ _ (by show (-9223372036854775808 : Int) ≤ _; decide)).mono ?_; rintro e w' ⟨rfl, rfl⟩))
          have hz := set5 (heap_old (.cells #[(.int .i64 ((j : Int) + 1)), (.int .i64 0), (.int .i64 0), (.int .i64 0), (.int .u32 oo.imm)] 28) E4) (.int .i64 ((j : Int) + 1)) (.int .i64 0) (.int .i64 0) (.int .i64 0) (.int .u32 oo.imm)
          have hb := set5_below (below_al (Below.then b2 BQ) (.cells #[(.int .i64 ((j : Int) + 1)), (.int .i64 0), (.int .i64 0), (.int .i64 0), (.int .u32 oo.imm)] 28)) (Nat.le_refl w.heap.size) (.int .i64 ((j : Int) + 1)) (.int .i64 0) (.int .i64 0) (.int .i64 0) (.int .u32 oo.imm)
          generalize ((((((WQ.alloc (.cells #[(.int .i64 ((j : Int) + 1)), (.int .i64 0), (.int .i64 0), (.int .i64 0), (.int .u32 oo.imm)] 28)).setCell ⟨w.heap.size, 0, none⟩ (.int .i64 ((j : Int) + 1))).setCell ⟨w.heap.size, 1, none⟩ (.int .i64 0)).setCell ⟨w.heap.size, 2, none⟩ (.int .i64 0)).setCell ⟨w.heap.size, 3, none⟩ (.int .i64 0)).setCell ⟨w.heap.size, 4, none⟩ (.int .u32 oo.imm)) = WW at *
          clear Z0 Z1 Z2 Z3 Z4 ZF
          obtain ⟨z0, z1, z2, z3, z4, _⟩ := cells5 hz
          refine bodyPost_ret (v := .tuple #[.agg #[(.int .i64 ((j : Int) + 1)), (.int .i64 0), (.int .i64 0), (.int .i64 0), (.int .u32 oo.imm)], .bool true]) ?_ rfl ⟨?_, hb⟩
          · simp [results, Try.results11, go_sem, z0, z1, z2, z3, z4]
          · exact congrArg (fun z => Ending.returned (.tuple #[z, .bool true])) (by rw [eo.out]; rfl)
      · have hf := Bool.eq_false_iff.2 hh
        rw [if_neg hh] at hE2
        have SM2 := SM false (by show _ = _; rw [hsame, hf])
        have hE3 := Lib.hid hE2
        clear SM hE hE2 hsame mr hh hf D1 D2 D3 hcb IM FA
        obtain ⟨pt_, hpt⟩ : ∃ p, (row j).1 = p := ⟨_, rfl⟩
        rw [hpt] at c0 SM2 hrr
        go_wp2_with (go_at_call 22; refine (forms_c _).mono ?_; rintro e w' ⟨rfl, hw⟩; obtain rfl := hw.symm)
        go_quiet (first | (go_at_call 24; first | exact quiet_add_is (MK _) | exact quiet_is (MK _)) | (go_at_call 23; first | exact quiet_add_is (SM2 _) | exact quiet_is (SM2 _)))
        go_wp2
        go_roundw
        case rel => exact ⟨j + 1, by omega, by go_num, Go.Proofs.Ytpdemjdjgehpgaa.Below.drewN' hB _, hE3⟩
        case measure => simp [intOf]; omega
    · obtain rfl : j = 69 := by omega
      have hE2 : none = rs := hE.out
      subst hE2
      have E4 := (hB.block _ (heap_lt E)).trans E
      obtain ⟨z0, z1, z2, z3, z4, zf⟩ := cells5 E4
      have hlt2 : ¬ ((69 : Nat) : Int) < 69 := by omega
      go_wp2
      have hz := set5 E4 (.int .i64 0) (.int .i64 0) (.int .i64 0) (.int .i64 0) (.int .u32 0)
      have hb := set5_below (Below.then b2 hB) (Nat.le_refl w.heap.size) (.int .i64 0) (.int .i64 0) (.int .i64 0) (.int .i64 0) (.int .u32 0)
      generalize (((((wr.setCell ⟨w.heap.size, 0, none⟩ (.int .i64 0)).setCell ⟨w.heap.size, 1, none⟩ (.int .i64 0)).setCell ⟨w.heap.size, 2, none⟩ (.int .i64 0)).setCell ⟨w.heap.size, 3, none⟩ (.int .i64 0)).setCell ⟨w.heap.size, 4, none⟩ (.int .u32 0)) = WW at *
      clear z0 z1 z2 z3 z4 zf
      obtain ⟨z0, z1, z2, z3, z4, _⟩ := cells5 hz
      refine bodyPost_ret (v := wordv none) ?_ rfl ⟨rfl, hb⟩
      simp [results, Try.results11, go_sem, z0, z1, z2, z3, z4, wordv, opv, Dc.Op.z]
end Rf
end Go.Proofs.Ytpdemjdjgehpgaa
