/- Contract of dioptraref11.Encode. -/
import Derived.Test.YtpdemjdjgehpgaaRf3
import Derived.Test.YtpdemjdjgehpgaaDcL2
namespace Go.Proofs.Ytpdemjdjgehpgaa
open Go.RowKit Dc
set_option linter.unusedVariables false
set_option linter.unusedSimpArgs false
namespace Rf
open Dec
set_option maxHeartbeats 20000000 in
set_option maxRecDepth 100000 in
theorem encode_r (o : Dc.Op) (w : World) (hi : 0 ≤ o.imm) (hi' : o.imm < 4294967296) (rs : Option Int) (hrs : Hid (encode o = rs)) :
    Calls Try.prog 13 #[opv o] w fun e w' => e = .returned (encv rs) ∧ Below w.heap.size w w' := by
  have hfs : forms.size = 69 := rfl
  by_cases hsm : (1 ≤ o.name ∧ o.name ≤ 69) ∧ (0 ≤ o.rd ∧ o.rd < 32) ∧ (0 ≤ o.r1 ∧ o.r1 < 32) ∧ (0 ≤ o.r2 ∧ o.r2 < 32)
  · obtain ⟨hnm, hd32, h132, h232⟩ := hsm
    obtain ⟨j, hj⟩ : ∃ j : Nat, o.name = j + 1 := ⟨(o.name - 1).toNat, by omega⟩
    have hj69 : j < 69 := by omega
    have hjf : j < forms.size := by rw [hfs]; exact hj69
    have hfj : (((forms[j]'hjf).toNat : Nat) : Int) = ((row j).2 : Int) := by rw [form_at j hj69]
    have hlet := row_letter j hj69
    have hrr := row_rng j hj69
    have henc : encode o = if word (build (frm (row j).2) (row j).1 o) = some o then some (build (frm (row j).2) (row j).1 o) else none := by
      unfold encode
      rw [if_neg (by omega), show (o.name - 1).toNat = j by omega]
    have hbw := build_sum j hj69 o hd32.1 hd32.2 h132.1 h132.2 h232.1 h232.2
    obtain ⟨bw, hb0⟩ : ∃ bw, Hid (build (frm (row j).2) (row j).1 o = bw) := ⟨_, rfl⟩
    rw [hb0.out, hrs.out] at henc
    rw [hb0.out] at hbw
    have hec := Lib.hid henc
    clear henc hb0
    have NM := fun W => number_c _ hlet o.imm W hi hi'
    have PD := fun a m t W h1 h2 => part_c o.rd a m t W hd32.1 (by omega) h1 h2
    have P1 := fun a m t W h1 h2 => part_c o.r1 a m t W h132.1 (by omega) h1 h2
    have P2 := fun a m t W h1 h2 => part_c o.r2 a m t W h232.1 (by omega) h1 h2
    have D1 := hs1 _ hlet
    have D2 := hs2 _ hlet
    have D3 := hs3 _ hlet
    obtain ⟨nv, hnv⟩ : ∃ nv, Hid (numR (row j).2 o.imm = nv) := ⟨_, rfl⟩
    rw [hnv.out] at NM hbw
    obtain ⟨rw', hrw⟩ : ∃ rw', Hid (word bw = rw') := ⟨_, rfl⟩
    have HWD : ∀ v, v = bw → 0 ≤ v → v < 4294967296 → ∀ W, Calls Try.prog 11 #[.int .u32 v] W fun e w' => e = .returned (wordv rw') ∧ Below W.heap.size W w' := fun v e h1 h2 W => word_r v W h1 h2 _ (e ▸ hrw)
    obtain ⟨hd, h1, h2⟩ | ⟨hd, h1, h2⟩ | ⟨hd, h1, h2⟩ | ⟨hd, h1, h2⟩ | ⟨hd, h1, h2⟩ := combos _ hlet
    · rw [hd] at D1
      rw [h1] at D2
      rw [h2] at D3
      rw [hd, h1, h2] at hbw
      simp only [if_true, Bool.false_eq_true, if_false] at hbw
      have hbu := Lib.hid hbw
      have HA := fun W => has_r ⟨#[85, 74, 73, 82, 72, 65, 76, 70, 67]⟩ ((row j).2 : Int) W (by decide) true D1
      have HB := fun W => has_r ⟨#[73, 66, 83, 82, 72, 65, 76, 70, 86, 67]⟩ ((row j).2 : Int) W (by decide) false D2
      have HC := fun W => has_r ⟨#[66, 83, 82, 65, 86]⟩ ((row j).2 : Int) W (by decide) false D3
      clear hbw D1 D2 D3 hd h1 h2
      unfold opv
      rw [hj]
      go_enter Try.func13, Try.ntmps13
      have FQ : ∀ W, Calls Try.prog 22 #[] W fun e w' => e = .returned (.string forms) ∧ W = w' := fun W => (forms_c W).mono (fun _ _ ⟨a, b⟩ => ⟨a, b.symm⟩)
      have NQ : ∀ W, Calls Try.prog 32 #[.int .u32 o.imm, .int .u8 ((row j).2 : Int)] W fun e w' => e = .returned (.int .u32 nv) ∧ W = w' := fun W => (NM W).mono (fun _ _ ⟨a, b⟩ => ⟨a, b.symm⟩)
      clear NM
      go_wp2_with (first | (go_at_call 21; refine (patterns_c _).mono ?_; rintro e w1 ⟨g, rfl, R, b1⟩; obtain ⟨E, b2⟩ := alloc1_then b1; clear b1; obtain ⟨z0, z1, z2, z3, z4, zf⟩ := cells5 E; have c0 := R j hj69) | (go_at_call 31; refine (small_c _ _).mono ?_; rintro e w' ⟨rfl, hw⟩; obtain rfl := hw.symm))
      go_quiet ((go_at_call 22; first | exact quiet_add_is (FQ _) | exact quiet_is (FQ _)))
      go_wp2
      go_quiet ((go_at_call 32; first | exact quiet_add_is (NQ _) | exact quiet_is (NQ _)))
      go_wp2_with (first | (go_at_call 26; (first | with_reducible refine (HA _).mono ?_ | with_reducible refine (HB _).mono ?_ | with_reducible refine (HC _).mono ?_); rintro e w' ⟨rfl, hw⟩; obtain rfl := hw.symm) | (go_at_call 33; (first | with_reducible refine (PD _ _ _ _ (by omega) (by omega)).mono ?_ | with_reducible refine (P1 _ _ _ _ (by omega) (by omega)).mono ?_ | with_reducible refine (P2 _ _ _ _ (by omega) (by omega)).mono ?_); rintro e w' ⟨rfl, hw⟩; obtain rfl := hw.symm) | (go_at_call 11; refine (HWD _ (by rw [hbu.out]; unfold add; omega) (Int.emod_nonneg _ (by decide)) (Int.emod_lt_of_pos _ (by decide)) _).mono ?_; rintro e w6 ⟨rfl, b6⟩; clear HWD z0 z1 z2 z3 z4 zf; have E6 := (b6.block _ (heap_lt E)).trans E; have B3 := Below.then (Go.Proofs.Ytpdemjdjgehpgaa.Below.drewN' b2 _) b6; clear b6; obtain ⟨z0, z1, z2, z3, z4, _⟩ := cells5 E6; have Z0 := fun q => Lib.cell?_alloc_some q z0; have Z1 := fun q => Lib.cell?_alloc_some q z1; have Z2 := fun q => Lib.cell?_alloc_some q z2; have Z3 := fun q => Lib.cell?_alloc_some q z3; have Z4 := fun q => Lib.cell?_alloc_some q z4; clear z0 z1 z2 z3 z4; rcases rw' with _ | oo; (unfold wordv opv Dc.Op.z); rotate_left; (unfold wordv opv)))
      all_goals
        go_ret2
        refine ⟨?_, by first | exact B3 | exact below_al B3 _ | exact Go.Proofs.Ytpdemjdjgehpgaa.Below.drewN' (below_al B3 _) _⟩
        first
          | (have hr := enc_none hec.out hrw.out; exact enc_ret0 hr)
          | (have hr := enc_no hec.out hrw.out (fun ⟨_, _, _, _, _⟩ => by omega); exact enc_ret0 hr)
          | (have hr := enc_yes hec.out hrw.out (by omega) (by omega) (by omega) (by omega) (by omega); refine enc_ret hr ?_; rw [hbu.out]; unfold add; omega)
    · rw [hd] at D1
      rw [h1] at D2
      rw [h2] at D3
      rw [hd, h1, h2] at hbw
      simp only [if_true, Bool.false_eq_true, if_false] at hbw
      have hbu := Lib.hid hbw
      have HA := fun W => has_r ⟨#[85, 74, 73, 82, 72, 65, 76, 70, 67]⟩ ((row j).2 : Int) W (by decide) true D1
      have HB := fun W => has_r ⟨#[73, 66, 83, 82, 72, 65, 76, 70, 86, 67]⟩ ((row j).2 : Int) W (by decide) true D2
      have HC := fun W => has_r ⟨#[66, 83, 82, 65, 86]⟩ ((row j).2 : Int) W (by decide) false D3
      clear hbw D1 D2 D3 hd h1 h2
      unfold opv
      rw [hj]
      go_enter Try.func13, Try.ntmps13
      have FQ : ∀ W, Calls Try.prog 22 #[] W fun e w' => e = .returned (.string forms) ∧ W = w' := fun W => (forms_c W).mono (fun _ _ ⟨a, b⟩ => ⟨a, b.symm⟩)
      have NQ : ∀ W, Calls Try.prog 32 #[.int .u32 o.imm, .int .u8 ((row j).2 : Int)] W fun e w' => e = .returned (.int .u32 nv) ∧ W = w' := fun W => (NM W).mono (fun _ _ ⟨a, b⟩ => ⟨a, b.symm⟩)
      clear NM
      go_wp2_with (first | (go_at_call 21; refine (patterns_c _).mono ?_; rintro e w1 ⟨g, rfl, R, b1⟩; obtain ⟨E, b2⟩ := alloc1_then b1; clear b1; obtain ⟨z0, z1, z2, z3, z4, zf⟩ := cells5 E; have c0 := R j hj69) | (go_at_call 31; refine (small_c _ _).mono ?_; rintro e w' ⟨rfl, hw⟩; obtain rfl := hw.symm))
      go_quiet ((go_at_call 22; first | exact quiet_add_is (FQ _) | exact quiet_is (FQ _)))
      go_wp2
      go_quiet ((go_at_call 32; first | exact quiet_add_is (NQ _) | exact quiet_is (NQ _)))
      go_wp2_with (first | (go_at_call 26; (first | with_reducible refine (HA _).mono ?_ | with_reducible refine (HB _).mono ?_ | with_reducible refine (HC _).mono ?_); rintro e w' ⟨rfl, hw⟩; obtain rfl := hw.symm) | (go_at_call 33; (first | with_reducible refine (PD _ _ _ _ (by omega) (by omega)).mono ?_ | with_reducible refine (P1 _ _ _ _ (by omega) (by omega)).mono ?_ | with_reducible refine (P2 _ _ _ _ (by omega) (by omega)).mono ?_); rintro e w' ⟨rfl, hw⟩; obtain rfl := hw.symm) | (go_at_call 11; refine (HWD _ (by rw [hbu.out]; unfold add; omega) (Int.emod_nonneg _ (by decide)) (Int.emod_lt_of_pos _ (by decide)) _).mono ?_; rintro e w6 ⟨rfl, b6⟩; clear HWD z0 z1 z2 z3 z4 zf; have E6 := (b6.block _ (heap_lt E)).trans E; have B3 := Below.then (Go.Proofs.Ytpdemjdjgehpgaa.Below.drewN' b2 _) b6; clear b6; obtain ⟨z0, z1, z2, z3, z4, _⟩ := cells5 E6; have Z0 := fun q => Lib.cell?_alloc_some q z0; have Z1 := fun q => Lib.cell?_alloc_some q z1; have Z2 := fun q => Lib.cell?_alloc_some q z2; have Z3 := fun q => Lib.cell?_alloc_some q z3; have Z4 := fun q => Lib.cell?_alloc_some q z4; clear z0 z1 z2 z3 z4; rcases rw' with _ | oo; (unfold wordv opv Dc.Op.z); rotate_left; (unfold wordv opv)))
      all_goals
        go_ret2
        refine ⟨?_, by first | exact B3 | exact below_al B3 _ | exact Go.Proofs.Ytpdemjdjgehpgaa.Below.drewN' (below_al B3 _) _⟩
        first
          | (have hr := enc_none hec.out hrw.out; exact enc_ret0 hr)
          | (have hr := enc_no hec.out hrw.out (fun ⟨_, _, _, _, _⟩ => by omega); exact enc_ret0 hr)
          | (have hr := enc_yes hec.out hrw.out (by omega) (by omega) (by omega) (by omega) (by omega); refine enc_ret hr ?_; rw [hbu.out]; unfold add; omega)
    · rw [hd] at D1
      rw [h1] at D2
      rw [h2] at D3
      rw [hd, h1, h2] at hbw
      simp only [if_true, Bool.false_eq_true, if_false] at hbw
      have hbu := Lib.hid hbw
      have HA := fun W => has_r ⟨#[85, 74, 73, 82, 72, 65, 76, 70, 67]⟩ ((row j).2 : Int) W (by decide) false D1
      have HB := fun W => has_r ⟨#[73, 66, 83, 82, 72, 65, 76, 70, 86, 67]⟩ ((row j).2 : Int) W (by decide) true D2
      have HC := fun W => has_r ⟨#[66, 83, 82, 65, 86]⟩ ((row j).2 : Int) W (by decide) true D3
      clear hbw D1 D2 D3 hd h1 h2
      unfold opv
      rw [hj]
      go_enter Try.func13, Try.ntmps13
      have FQ : ∀ W, Calls Try.prog 22 #[] W fun e w' => e = .returned (.string forms) ∧ W = w' := fun W => (forms_c W).mono (fun _ _ ⟨a, b⟩ => ⟨a, b.symm⟩)
      have NQ : ∀ W, Calls Try.prog 32 #[.int .u32 o.imm, .int .u8 ((row j).2 : Int)] W fun e w' => e = .returned (.int .u32 nv) ∧ W = w' := fun W => (NM W).mono (fun _ _ ⟨a, b⟩ => ⟨a, b.symm⟩)
      clear NM
      go_wp2_with (first | (go_at_call 21; refine (patterns_c _).mono ?_; rintro e w1 ⟨g, rfl, R, b1⟩; obtain ⟨E, b2⟩ := alloc1_then b1; clear b1; obtain ⟨z0, z1, z2, z3, z4, zf⟩ := cells5 E; have c0 := R j hj69) | (go_at_call 31; refine (small_c _ _).mono ?_; rintro e w' ⟨rfl, hw⟩; obtain rfl := hw.symm))
      go_quiet ((go_at_call 22; first | exact quiet_add_is (FQ _) | exact quiet_is (FQ _)))
      go_wp2
      go_quiet ((go_at_call 32; first | exact quiet_add_is (NQ _) | exact quiet_is (NQ _)))
      go_wp2_with (first | (go_at_call 26; (first | with_reducible refine (HA _).mono ?_ | with_reducible refine (HB _).mono ?_ | with_reducible refine (HC _).mono ?_); rintro e w' ⟨rfl, hw⟩; obtain rfl := hw.symm) | (go_at_call 33; (first | with_reducible refine (PD _ _ _ _ (by omega) (by omega)).mono ?_ | with_reducible refine (P1 _ _ _ _ (by omega) (by omega)).mono ?_ | with_reducible refine (P2 _ _ _ _ (by omega) (by omega)).mono ?_); rintro e w' ⟨rfl, hw⟩; obtain rfl := hw.symm) | (go_at_call 11; refine (HWD _ (by rw [hbu.out]; unfold add; omega) (Int.emod_nonneg _ (by decide)) (Int.emod_lt_of_pos _ (by decide)) _).mono ?_; rintro e w6 ⟨rfl, b6⟩; clear HWD z0 z1 z2 z3 z4 zf; have E6 := (b6.block _ (heap_lt E)).trans E; have B3 := Below.then (Go.Proofs.Ytpdemjdjgehpgaa.Below.drewN' b2 _) b6; clear b6; obtain ⟨z0, z1, z2, z3, z4, _⟩ := cells5 E6; have Z0 := fun q => Lib.cell?_alloc_some q z0; have Z1 := fun q => Lib.cell?_alloc_some q z1; have Z2 := fun q => Lib.cell?_alloc_some q z2; have Z3 := fun q => Lib.cell?_alloc_some q z3; have Z4 := fun q => Lib.cell?_alloc_some q z4; clear z0 z1 z2 z3 z4; rcases rw' with _ | oo; (unfold wordv opv Dc.Op.z); rotate_left; (unfold wordv opv)))
      all_goals
        go_ret2
        refine ⟨?_, by first | exact B3 | exact below_al B3 _ | exact Go.Proofs.Ytpdemjdjgehpgaa.Below.drewN' (below_al B3 _) _⟩
        first
          | (have hr := enc_none hec.out hrw.out; exact enc_ret0 hr)
          | (have hr := enc_no hec.out hrw.out (fun ⟨_, _, _, _, _⟩ => by omega); exact enc_ret0 hr)
          | (have hr := enc_yes hec.out hrw.out (by omega) (by omega) (by omega) (by omega) (by omega); refine enc_ret hr ?_; rw [hbu.out]; unfold add; omega)
    · rw [hd] at D1
      rw [h1] at D2
      rw [h2] at D3
      rw [hd, h1, h2] at hbw
      simp only [if_true, Bool.false_eq_true, if_false] at hbw
      have hbu := Lib.hid hbw
      have HA := fun W => has_r ⟨#[85, 74, 73, 82, 72, 65, 76, 70, 67]⟩ ((row j).2 : Int) W (by decide) true D1
      have HB := fun W => has_r ⟨#[73, 66, 83, 82, 72, 65, 76, 70, 86, 67]⟩ ((row j).2 : Int) W (by decide) true D2
      have HC := fun W => has_r ⟨#[66, 83, 82, 65, 86]⟩ ((row j).2 : Int) W (by decide) true D3
      clear hbw D1 D2 D3 hd h1 h2
      unfold opv
      rw [hj]
      go_enter Try.func13, Try.ntmps13
      have FQ : ∀ W, Calls Try.prog 22 #[] W fun e w' => e = .returned (.string forms) ∧ W = w' := fun W => (forms_c W).mono (fun _ _ ⟨a, b⟩ => ⟨a, b.symm⟩)
      have NQ : ∀ W, Calls Try.prog 32 #[.int .u32 o.imm, .int .u8 ((row j).2 : Int)] W fun e w' => e = .returned (.int .u32 nv) ∧ W = w' := fun W => (NM W).mono (fun _ _ ⟨a, b⟩ => ⟨a, b.symm⟩)
      clear NM
      go_wp2_with (first | (go_at_call 21; refine (patterns_c _).mono ?_; rintro e w1 ⟨g, rfl, R, b1⟩; obtain ⟨E, b2⟩ := alloc1_then b1; clear b1; obtain ⟨z0, z1, z2, z3, z4, zf⟩ := cells5 E; have c0 := R j hj69) | (go_at_call 31; refine (small_c _ _).mono ?_; rintro e w' ⟨rfl, hw⟩; obtain rfl := hw.symm))
      go_quiet ((go_at_call 22; first | exact quiet_add_is (FQ _) | exact quiet_is (FQ _)))
      go_wp2
      go_quiet ((go_at_call 32; first | exact quiet_add_is (NQ _) | exact quiet_is (NQ _)))
      go_wp2_with (first | (go_at_call 26; (first | with_reducible refine (HA _).mono ?_ | with_reducible refine (HB _).mono ?_ | with_reducible refine (HC _).mono ?_); rintro e w' ⟨rfl, hw⟩; obtain rfl := hw.symm) | (go_at_call 33; (first | with_reducible refine (PD _ _ _ _ (by omega) (by omega)).mono ?_ | with_reducible refine (P1 _ _ _ _ (by omega) (by omega)).mono ?_ | with_reducible refine (P2 _ _ _ _ (by omega) (by omega)).mono ?_); rintro e w' ⟨rfl, hw⟩; obtain rfl := hw.symm) | (go_at_call 11; refine (HWD _ (by rw [hbu.out]; unfold add; omega) (Int.emod_nonneg _ (by decide)) (Int.emod_lt_of_pos _ (by decide)) _).mono ?_; rintro e w6 ⟨rfl, b6⟩; clear HWD z0 z1 z2 z3 z4 zf; have E6 := (b6.block _ (heap_lt E)).trans E; have B3 := Below.then (Go.Proofs.Ytpdemjdjgehpgaa.Below.drewN' b2 _) b6; clear b6; obtain ⟨z0, z1, z2, z3, z4, _⟩ := cells5 E6; have Z0 := fun q => Lib.cell?_alloc_some q z0; have Z1 := fun q => Lib.cell?_alloc_some q z1; have Z2 := fun q => Lib.cell?_alloc_some q z2; have Z3 := fun q => Lib.cell?_alloc_some q z3; have Z4 := fun q => Lib.cell?_alloc_some q z4; clear z0 z1 z2 z3 z4; rcases rw' with _ | oo; (unfold wordv opv Dc.Op.z); rotate_left; (unfold wordv opv)))
      all_goals
        go_ret2
        refine ⟨?_, by first | exact B3 | exact below_al B3 _ | exact Go.Proofs.Ytpdemjdjgehpgaa.Below.drewN' (below_al B3 _) _⟩
        first
          | (have hr := enc_none hec.out hrw.out; exact enc_ret0 hr)
          | (have hr := enc_no hec.out hrw.out (fun ⟨_, _, _, _, _⟩ => by omega); exact enc_ret0 hr)
          | (have hr := enc_yes hec.out hrw.out (by omega) (by omega) (by omega) (by omega) (by omega); refine enc_ret hr ?_; rw [hbu.out]; unfold add; omega)
    · rw [hd] at D1
      rw [h1] at D2
      rw [h2] at D3
      rw [hd, h1, h2] at hbw
      simp only [if_true, Bool.false_eq_true, if_false] at hbw
      have hbu := Lib.hid hbw
      have HA := fun W => has_r ⟨#[85, 74, 73, 82, 72, 65, 76, 70, 67]⟩ ((row j).2 : Int) W (by decide) false D1
      have HB := fun W => has_r ⟨#[73, 66, 83, 82, 72, 65, 76, 70, 86, 67]⟩ ((row j).2 : Int) W (by decide) false D2
      have HC := fun W => has_r ⟨#[66, 83, 82, 65, 86]⟩ ((row j).2 : Int) W (by decide) false D3
      clear hbw D1 D2 D3 hd h1 h2
      unfold opv
      rw [hj]
      go_enter Try.func13, Try.ntmps13
      have FQ : ∀ W, Calls Try.prog 22 #[] W fun e w' => e = .returned (.string forms) ∧ W = w' := fun W => (forms_c W).mono (fun _ _ ⟨a, b⟩ => ⟨a, b.symm⟩)
      have NQ : ∀ W, Calls Try.prog 32 #[.int .u32 o.imm, .int .u8 ((row j).2 : Int)] W fun e w' => e = .returned (.int .u32 nv) ∧ W = w' := fun W => (NM W).mono (fun _ _ ⟨a, b⟩ => ⟨a, b.symm⟩)
      clear NM
      go_wp2_with (first | (go_at_call 21; refine (patterns_c _).mono ?_; rintro e w1 ⟨g, rfl, R, b1⟩; obtain ⟨E, b2⟩ := alloc1_then b1; clear b1; obtain ⟨z0, z1, z2, z3, z4, zf⟩ := cells5 E; have c0 := R j hj69) | (go_at_call 31; refine (small_c _ _).mono ?_; rintro e w' ⟨rfl, hw⟩; obtain rfl := hw.symm))
      go_quiet ((go_at_call 22; first | exact quiet_add_is (FQ _) | exact quiet_is (FQ _)))
      go_wp2
      go_quiet ((go_at_call 32; first | exact quiet_add_is (NQ _) | exact quiet_is (NQ _)))
      go_wp2_with (first | (go_at_call 26; (first | with_reducible refine (HA _).mono ?_ | with_reducible refine (HB _).mono ?_ | with_reducible refine (HC _).mono ?_); rintro e w' ⟨rfl, hw⟩; obtain rfl := hw.symm) | (go_at_call 33; (first | with_reducible refine (PD _ _ _ _ (by omega) (by omega)).mono ?_ | with_reducible refine (P1 _ _ _ _ (by omega) (by omega)).mono ?_ | with_reducible refine (P2 _ _ _ _ (by omega) (by omega)).mono ?_); rintro e w' ⟨rfl, hw⟩; obtain rfl := hw.symm) | (go_at_call 11; refine (HWD _ (by rw [hbu.out]; unfold add; omega) (Int.emod_nonneg _ (by decide)) (Int.emod_lt_of_pos _ (by decide)) _).mono ?_; rintro e w6 ⟨rfl, b6⟩; clear HWD z0 z1 z2 z3 z4 zf; have E6 := (b6.block _ (heap_lt E)).trans E; have B3 := Below.then (Go.Proofs.Ytpdemjdjgehpgaa.Below.drewN' b2 _) b6; clear b6; obtain ⟨z0, z1, z2, z3, z4, _⟩ := cells5 E6; have Z0 := fun q => Lib.cell?_alloc_some q z0; have Z1 := fun q => Lib.cell?_alloc_some q z1; have Z2 := fun q => Lib.cell?_alloc_some q z2; have Z3 := fun q => Lib.cell?_alloc_some q z3; have Z4 := fun q => Lib.cell?_alloc_some q z4; clear z0 z1 z2 z3 z4; rcases rw' with _ | oo; (unfold wordv opv Dc.Op.z); rotate_left; (unfold wordv opv)))
      all_goals
        go_ret2
        refine ⟨?_, by first | exact B3 | exact below_al B3 _ | exact Go.Proofs.Ytpdemjdjgehpgaa.Below.drewN' (below_al B3 _) _⟩
        first
          | (have hr := enc_none hec.out hrw.out; exact enc_ret0 hr)
          | (have hr := enc_no hec.out hrw.out (fun ⟨_, _, _, _, _⟩ => by omega); exact enc_ret0 hr)
          | (have hr := enc_yes hec.out hrw.out (by omega) (by omega) (by omega) (by omega) (by omega); refine enc_ret hr ?_; rw [hbu.out]; unfold add; omega)
  · have hno : encode o = none := by
      have := encode_small o
      cases he : encode o with
      | none => rfl
      | some v => exact absurd (this v he) hsm
    have hrs2 : rs = none := by rw [← hrs.out]; exact hno
    subst hrs2
    unfold opv
    go_enter Try.func13, Try.ntmps13
    go_wp2_with (first | (go_at_call 21; refine (patterns_c _).mono ?_; rintro e w1 ⟨g, rfl, R, b1⟩; obtain ⟨E, b2⟩ := alloc1_then b1; clear b1; obtain ⟨z0, z1, z2, z3, z4, zf⟩ := cells5 E) | (go_at_call 31; refine (small_c _ _).mono ?_; rintro e w' ⟨rfl, hw⟩; obtain rfl := hw.symm))
    all_goals first | (go_ret2; exact ⟨rfl, b2⟩) | (exfalso; simp only [Bool.not_eq_false', decide_eq_true_eq] at *; omega)
end Rf
end Go.Proofs.Ytpdemjdjgehpgaa
