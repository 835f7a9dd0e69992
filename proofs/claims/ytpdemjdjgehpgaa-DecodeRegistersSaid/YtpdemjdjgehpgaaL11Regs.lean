/- DecodeRegisters: with another register in the place of one a word says the same, but for that. No condition. -/
import Derived.Test.YtpdemjdjgehpgaaKit11
import Derived.Test.YtpdemjdjgehpgaaDcL5
import Derived.Deep.RegionHeld3
namespace Go.Proofs.Ytpdemjdjgehpgaa
open Go.RowKit Dc
set_option linter.unusedVariables false
set_option linter.unusedSimpArgs false
namespace L11Regs
open Dec
theorem heap_old {W : World} {b : Nat} {o : Obj} (q : Obj) (h : W.heap[b]? = some o) : (W.alloc q).heap[b]? = some o := ((alloc1_below W q).block b (heap_lt h)).trans h
theorem set_one {W : World} {b : Nat} {cs : Array Value} {t : TypeId} (h : W.heap[b]? = some (.cells cs t (0, 0))) (i : Nat) (v : Value) : (W.setCell ⟨b, i, none⟩ v).heap[b]? = some (.cells (cs.setIfInBounds i v) t (0, 0)) := by
  simp only [World.setCell, Array.getElem?_modify, h, if_true, Option.map_some]
  simp
set_option maxHeartbeats 8000000 in
set_option maxRecDepth 100000 in
theorem DecodeRegisters_c (a0 : Int) (a1 : Int) (w : World) (w0 : (Lit.int .u32 a0).wf = true) (w1 : (Lit.int .u8 a1).wf = true) :
    Calls Try.prog 8 #[.int .u32 a0, .int .u8 a1] w fun e w' => e = .returned (.bool true) ∧ Below w.heap.size w w' := by
  obtain ⟨p0, p1⟩ := wf_u32 w0
  obtain ⟨q0, q1⟩ := wf_u8 w1
  clear w0 w1
  have hal := fun W => Dliv.alive_c W
  obtain ⟨r1, hr1⟩ : ∃ rs, Hid (word a0 = rs) := ⟨_, rfl⟩
  have W1 := fun W => Dec.word_r a0 W p0 p1 r1 hr1
  rcases r1 with _ | o
  · unfold wordv opv Dc.Op.z at W1
    go_enter Try.func8, Try.ntmps8
    go_wp2_with (first | (go_at_call 9; refine (hal _).mono ?_; rintro e w1 ⟨rfl, b1⟩) | (go_at_call 10; refine (W1 _).mono ?_; rintro e w2 ⟨rfl, b2⟩; have B := Below.then b1 b2))
    go_ret
    exact ⟨rfl, by first | exact B | exact below_al B _⟩
  · obtain ⟨k, hk⟩ : ∃ k, a1 % 32 = k := ⟨_, rfl⟩
    have k0 : 0 ≤ k := by omega
    have k1 : k < 32 := by omega
    have hf := fields_ok p0 p1 hr1.out
    have hn := hf.1
    have hi := hf.2.1
    clear hf
    obtain ⟨rd, hrd⟩ : ∃ rs, Hid (encode ⟨o.name, k, o.r1, o.r2, o.imm⟩ = rs) := ⟨_, rfl⟩
    obtain ⟨r2, hr2⟩ : ∃ rs, Hid (encode ⟨o.name, o.rd, k, o.r2, o.imm⟩ = rs) := ⟨_, rfl⟩
    have N1 := fun W => Dec.encode_r ⟨o.name, k, o.r1, o.r2, o.imm⟩ W hi.1 hi.2 (show -9223372036854775808 ≤ o.name by omega) (show o.name ≤ 9223372036854775807 by omega) rd hrd
    have N2 := fun W => Dec.encode_r ⟨o.name, o.rd, k, o.r2, o.imm⟩ W hi.1 hi.2 (show -9223372036854775808 ≤ o.name by omega) (show o.name ≤ 9223372036854775807 by omega) r2 hr2
    obtain ⟨wr, hwr⟩ : ∃ q, Hid (writes o.name = q) := ⟨_, rfl⟩
    have P1 := fun W => Dec.writes_r o.name W wr hwr
    have CASES : (wr = true ∧ ∃ x, rd = some x ∧ bits .andNot .u32 x 3968 = bits .andNot .u32 a0 3968 ∧ bits .and .u32 (x / 2 ^ 7) 31 = k) ∨ wr = false := by
      cases c : wr
      · exact .inr rfl
      · rw [c] at hwr
        obtain ⟨x, e, f1, f2⟩ := regs_d p0 p1 hr1.out hwr.out k0 k1
        exact .inl ⟨rfl, x, hrd.out.symm.trans e, f1, f2⟩
    have CASE2 : (((k == o.r1) = true) ∧ r2 = some a0) ∨ (((k == o.r1) = false) ∧ (r2 = none ∨ ∃ y, r2 = some y ∧ bits .andNot .u32 y 1015808 = bits .andNot .u32 a0 1015808 ∧ bits .and .u32 (y / 2 ^ 15) 31 = k)) := by
      by_cases c : k = o.r1
      · refine .inl ⟨beq_iff_eq.2 c, ?_⟩
        have e : (⟨o.name, o.rd, k, o.r2, o.imm⟩ : Dc.Op) = o := by rw [c]
        rw [← hr2.out, e]
        exact encode_word p0 p1 hr1.out
      · refine .inr ⟨beq_eq_false_iff_ne.2 c, ?_⟩
        cases c2 : r2 with
        | none => exact .inl rfl
        | some y =>
          have e := hr2.out
          rw [c2] at e
          obtain ⟨f1, f2⟩ := regs_1 p0 p1 hr1.out k0 k1 c e
          exact .inr ⟨y, rfl, f1, f2⟩
    clear hrd hr2 hwr hr1
    unfold wordv at W1
    unfold opv at W1 N1 N2
    dsimp only at N1 N2
    go_enter Try.func8, Try.ntmps8
    go_wp2_with (first | (go_at_call 9; refine (hal _).mono ?_; rintro e w1 ⟨rfl, b1⟩) | (go_at_call 10; refine (W1 _).mono ?_; rintro e w2 ⟨rfl, b2⟩; have B := Below.then b1 b2))
    have hkm : a1 % 32 = k := hk
    rw [hkm]
    have EO := heap_alloc_new w2 (.cells #[.int .i64 o.name, .int .i64 o.rd, .int .i64 o.r1, .int .i64 o.r2, .int .u32 o.imm] 25)
    replace B := below_al B (.cells #[.int .i64 o.name, .int .i64 o.rd, .int .i64 o.r1, .int .i64 o.r2, .int .u32 o.imm] 25)
    generalize w2.alloc (.cells #[.int .i64 o.name, .int .i64 o.rd, .int .i64 o.r1, .int .i64 o.r2, .int .u32 o.imm] 25) = wB at *
    obtain ⟨x0, x1, x2, x3, x4, _⟩ := cells5 EO
    clear hal W1 hk hkm
    refine wp_region_held_drew (S := (fun W => W.cell? ⟨w2.heap.size, 0, none⟩ = some (.int .i64 o.name) ∧ W.cell? ⟨w2.heap.size, 1, none⟩ = some (.int .i64 o.rd) ∧ W.cell? ⟨w2.heap.size, 2, none⟩ = some (.int .i64 o.r1) ∧ W.cell? ⟨w2.heap.size, 3, none⟩ = some (.int .i64 o.r2) ∧ W.cell? ⟨w2.heap.size, 4, none⟩ = some (.int .u32 o.imm))) (by kernel_rfl) ?_ (fun hHeld => ?_)
    · exact ⟨x0, x1, x2, x3, x4⟩
    refine wpAnyH_take (i := 0) (v := ?_) rfl (by kernel_rfl) (by kernel_rfl) (by kernel_rfl) (fun _ _ _ h => h) (Or.inl ⟨by kernel_rfl, ?_⟩) (by assumption) ?_
    rotate_left
    · ((intro w hSw; (try dsimp only at hSw); go_simp) <;> with_reducible rfl)
    (try simp only [Act.put, List.setIfInBounds_toArray, List.set_cons_zero, List.set_cons_succ])
    refine wpAnyH_take (i := 1) (v := ?_) rfl (by kernel_rfl) (by kernel_rfl) (by kernel_rfl) (fun _ _ _ h => h) (Or.inl ⟨by kernel_rfl, ?_⟩) (by assumption) ?_
    rotate_left
    · ((intro w hSw; (try dsimp only at hSw); go_simp) <;> with_reducible rfl)
    (try simp only [Act.put, List.setIfInBounds_toArray, List.set_cons_zero, List.set_cons_succ])
    refine wpAnyH_ready (rs := [2, 3]) (by kernel_rfl) (by simp) ?_
    refine AllReadyH.cons rfl (fun K hK => ?_) (AllReadyH.cons rfl (fun K hK => ?_) AllReadyH.nil)
    · go_simp
      clear hHeld
      refine hK.out _ _ ?_ (fun hHeld => ?_)
      · exact ⟨(Lib.cell?_alloc_some _ x0), (Lib.cell?_alloc_some _ x1), (Lib.cell?_alloc_some _ x2), (Lib.cell?_alloc_some _ x3), (Lib.cell?_alloc_some _ x4)⟩
      clear hK K
      (try simp only [Act.put, List.setIfInBounds_toArray, List.set_cons_zero, List.set_cons_succ])
      refine wpAnyH_ready (rs := [3]) (by kernel_rfl) (by simp) ?_
      refine AllReadyH.cons rfl (fun K hK => ?_) AllReadyH.nil
      go_simp
      clear hHeld
      refine hK.out _ _ ?_ (fun hHeld => ?_)
      · exact ⟨(Lib.cell?_alloc_some _ (Lib.cell?_alloc_some _ x0)), (Lib.cell?_alloc_some _ (Lib.cell?_alloc_some _ x1)), (Lib.cell?_alloc_some _ (Lib.cell?_alloc_some _ x2)), (Lib.cell?_alloc_some _ (Lib.cell?_alloc_some _ x3)), (Lib.cell?_alloc_some _ (Lib.cell?_alloc_some _ x4))⟩
      clear hK K
      (try simp only [Act.put, List.setIfInBounds_toArray, List.set_cons_zero, List.set_cons_succ])
      refine wpAnyH_ready (rs := [4]) (by kernel_rfl) (by simp) ?_
      refine AllReadyH.cons rfl (fun K hK => ?_) AllReadyH.nil
      go_simp
      clear hHeld
      refine hK.out _ _ ?_ (fun hHeld => ?_)
      · exact ⟨(Lib.cell?_alloc_some _ (Lib.cell?_alloc_some _ x0)), (Lib.cell?_alloc_some _ (Lib.cell?_alloc_some _ x1)), (Lib.cell?_alloc_some _ (Lib.cell?_alloc_some _ x2)), (Lib.cell?_alloc_some _ (Lib.cell?_alloc_some _ x3)), (Lib.cell?_alloc_some _ (Lib.cell?_alloc_some _ x4))⟩
      clear hK K
      (try simp only [Act.put, List.setIfInBounds_toArray, List.set_cons_zero, List.set_cons_succ])
      refine wpAnyH_ready (rs := [5]) (by kernel_rfl) (by simp) ?_
      refine AllReadyH.cons rfl (fun K hK => ?_) AllReadyH.nil
      go_simp
      clear hHeld
      refine hK.out _ _ ?_ (fun hHeld => ?_)
      · exact ⟨(Lib.cell?_alloc_some _ (Lib.cell?_alloc_some _ x0)), (Lib.cell?_alloc_some _ (Lib.cell?_alloc_some _ x1)), (Lib.cell?_alloc_some _ (Lib.cell?_alloc_some _ x2)), (Lib.cell?_alloc_some _ (Lib.cell?_alloc_some _ x3)), (Lib.cell?_alloc_some _ (Lib.cell?_alloc_some _ x4))⟩
      clear hK K
      (try simp only [Act.put, List.setIfInBounds_toArray, List.set_cons_zero, List.set_cons_succ])
      refine wpAnyH_done (by kernel_rfl) ?_ _
      have F1 := heap_old (.cells #[.int .i64 o.name, .int .i64 o.rd, .int .i64 o.r1, .int .i64 o.r2, .int .u32 o.imm] 25) (heap_alloc_new wB (.cells #[.int .i64 o.name, .int .i64 o.rd, .int .i64 o.r1, .int .i64 o.r2, .int .u32 o.imm] 25))
      have F2 := heap_alloc_new (wB.alloc (.cells #[.int .i64 o.name, .int .i64 o.rd, .int .i64 o.r1, .int .i64 o.r2, .int .u32 o.imm] 25)) (.cells #[.int .i64 o.name, .int .i64 o.rd, .int .i64 o.r1, .int .i64 o.r2, .int .u32 o.imm] 25)
      have EO2 := heap_old (.cells #[.int .i64 o.name, .int .i64 o.rd, .int .i64 o.r1, .int .i64 o.r2, .int .u32 o.imm] 25) (heap_old (.cells #[.int .i64 o.name, .int .i64 o.rd, .int .i64 o.r1, .int .i64 o.r2, .int .u32 o.imm] 25) EO)
      have B2 := below_al (below_al B (.cells #[.int .i64 o.name, .int .i64 o.rd, .int .i64 o.r1, .int .i64 o.r2, .int .u32 o.imm] 25)) (.cells #[.int .i64 o.name, .int .i64 o.rd, .int .i64 o.r1, .int .i64 o.r2, .int .u32 o.imm] 25)
      have hsz : (wB.alloc (.cells #[.int .i64 o.name, .int .i64 o.rd, .int .i64 o.r1, .int .i64 o.r2, .int .u32 o.imm] 25)).heap.size = wB.heap.size + 1 := by simp
      rw [hsz] at F2
      generalize (wB.alloc (.cells #[.int .i64 o.name, .int .i64 o.rd, .int .i64 o.r1, .int .i64 o.r2, .int .u32 o.imm] 25)).alloc (.cells #[.int .i64 o.name, .int .i64 o.rd, .int .i64 o.r1, .int .i64 o.r2, .int .u32 o.imm] 25) = wF at *
      have P8 := F1
      have P9 := F2
      obtain ⟨p8, e8⟩ : ∃ p, p = wB.heap.size := ⟨_, rfl⟩
      obtain ⟨p9, e9⟩ : ∃ p, p = wB.heap.size + 1 := ⟨_, rfl⟩
      rw [← e8] at P8
      rw [← e9] at P9
      rw [← e9, ← e8]
      have n89 : ¬ p8 = p9 := by omega
      have n98 : ¬ p9 = p8 := by omega
      have n8o : ¬ p8 = w2.heap.size := by have := heap_lt EO; omega
      have n9o : ¬ p9 = w2.heap.size := by have := heap_lt EO; omega
      have no8 : ¬ w2.heap.size = p8 := fun e => n8o e.symm
      have no9 : ¬ w2.heap.size = p9 := fun e => n9o e.symm
      have g8 : w.heap.size ≤ p8 := by have := B.size; omega
      have g9 : w.heap.size ≤ p9 := by have := B.size; omega
      clear e8 e9 F1 F2 hsz hHeld x0 x1 x2 x3 x4 EO B
      obtain ⟨y0, y1, y2, y3, y4, yf⟩ := cells5 P8
      obtain ⟨z0, z1, z2, z3, z4, zf⟩ := cells5 P9
      have EO3 : ((wF.setCell ⟨p8, 1, none⟩ (.int .i64 k)).setCell ⟨p9, 2, none⟩ (.int .i64 k)).heap[w2.heap.size]? = _ := (Below.heap_setCell _ ⟨p9, 2, none⟩ (.int .i64 k) _ no9).trans ((Below.heap_setCell _ ⟨p8, 1, none⟩ (.int .i64 k) _ no8).trans EO2)
      have Q3 := set_one (W := wF.setCell ⟨p8, 1, none⟩ (.int .i64 k)) ((Below.heap_setCell _ ⟨p8, 1, none⟩ (.int .i64 k) _ n98).trans P9) 2 (.int .i64 k)
      have B3 : Below w.heap.size w ((wF.setCell ⟨p8, 1, none⟩ (.int .i64 k)).setCell ⟨p9, 2, none⟩ (.int .i64 k)) := (B2.setCell g8 _).setCell g9 _
      simp only [List.setIfInBounds_toArray, List.set_cons_zero, List.set_cons_succ] at Q3
      obtain ⟨rfl, xx, rfl, f1, f2⟩ | rfl := CASES
      · have f3 : bits .and .u32 (xx / 128) 31 = k := f2
        rcases CASE2 with ⟨kr, rfl⟩ | ⟨kr, rfl | ⟨yy, rfl, g1, g2⟩⟩
        all_goals
          try have g3 : bits .and .u32 (yy / 32768) 31 = k := g2
          unfold encv at N1 N2
          go_wp2_with (first | (go_at_call 12; first | (with_reducible refine (N1 _).mono ?_; rintro e w3 ⟨rfl, b3⟩; clear N1 y0 y1 y2 y3 y4 yf z0 z1 z2 z3 z4 zf; replace EO3 := (b3.block _ (heap_lt EO3)).trans EO3; replace Q3 := (b3.block _ (heap_lt Q3)).trans Q3; (first | replace B3 := Below.then B3 b3 | replace B3 := Below.then B3 (undrew b3)); clear b3; obtain ⟨o0, o1, o2, o3, o4, _⟩ := cells5 EO3; obtain ⟨z0, z1, z2, z3, z4, zf⟩ := cells5 Q3) | (with_reducible refine (N2 _).mono ?_; rintro e w5 ⟨rfl, b5⟩; clear N2 o0 o1 o2 o3 o4 z0 z1 z2 z3 z4 zf; replace EO3 := (b5.block _ (heap_lt EO3)).trans EO3; replace Q3 := (b5.block _ (heap_lt Q3)).trans Q3; (first | replace B3 := Below.then B3 b5 | replace B3 := Below.then B3 (undrew b5)); clear b5; obtain ⟨o0, o1, o2, o3, o4, _⟩ := cells5 EO3)) | (go_at_call 14; refine (P1 _).mono ?_; rintro e w4 ⟨rfl, b4⟩; clear o0 o1 o2 o3 o4 z0 z1 z2 z3 z4 zf; replace EO3 := (b4.block _ (heap_lt EO3)).trans EO3; replace Q3 := (b4.block _ (heap_lt Q3)).trans Q3; (first | replace B3 := Below.then B3 b4 | replace B3 := Below.then B3 (undrew b4)); clear b4; obtain ⟨o0, o1, o2, o3, o4, _⟩ := cells5 EO3; obtain ⟨z0, z1, z2, z3, z4, zf⟩ := cells5 Q3))
        all_goals first | (go_ret; exact ⟨rfl, by first | exact B3 | exact Go.Proofs.Ytpdemjdjgehpgaa.Below.drewN' B3 _⟩) | trace_state
      · rcases CASE2 with ⟨kr, rfl⟩ | ⟨kr, rfl | ⟨yy, rfl, g1, g2⟩⟩
        all_goals
          try have g3 : bits .and .u32 (yy / 32768) 31 = k := g2
          rcases rd with _ | xx
        all_goals
          unfold encv at N1 N2
          go_wp2_with (first | (go_at_call 12; first | (with_reducible refine (N1 _).mono ?_; rintro e w3 ⟨rfl, b3⟩; clear N1 y0 y1 y2 y3 y4 yf z0 z1 z2 z3 z4 zf; replace EO3 := (b3.block _ (heap_lt EO3)).trans EO3; replace Q3 := (b3.block _ (heap_lt Q3)).trans Q3; (first | replace B3 := Below.then B3 b3 | replace B3 := Below.then B3 (undrew b3)); clear b3; obtain ⟨o0, o1, o2, o3, o4, _⟩ := cells5 EO3; obtain ⟨z0, z1, z2, z3, z4, zf⟩ := cells5 Q3) | (with_reducible refine (N2 _).mono ?_; rintro e w5 ⟨rfl, b5⟩; clear N2 o0 o1 o2 o3 o4 z0 z1 z2 z3 z4 zf; replace EO3 := (b5.block _ (heap_lt EO3)).trans EO3; replace Q3 := (b5.block _ (heap_lt Q3)).trans Q3; (first | replace B3 := Below.then B3 b5 | replace B3 := Below.then B3 (undrew b5)); clear b5; obtain ⟨o0, o1, o2, o3, o4, _⟩ := cells5 EO3)) | (go_at_call 14; refine (P1 _).mono ?_; rintro e w4 ⟨rfl, b4⟩; clear o0 o1 o2 o3 o4 z0 z1 z2 z3 z4 zf; replace EO3 := (b4.block _ (heap_lt EO3)).trans EO3; replace Q3 := (b4.block _ (heap_lt Q3)).trans Q3; (first | replace B3 := Below.then B3 b4 | replace B3 := Below.then B3 (undrew b4)); clear b4; obtain ⟨o0, o1, o2, o3, o4, _⟩ := cells5 EO3; obtain ⟨z0, z1, z2, z3, z4, zf⟩ := cells5 Q3))
        all_goals first | (go_ret; exact ⟨rfl, by first | exact B3 | exact Go.Proofs.Ytpdemjdjgehpgaa.Below.drewN' B3 _⟩) | trace_state
    · go_simp
      clear hHeld
      refine hK.out _ _ ?_ (fun hHeld => ?_)
      · exact ⟨(Lib.cell?_alloc_some _ x0), (Lib.cell?_alloc_some _ x1), (Lib.cell?_alloc_some _ x2), (Lib.cell?_alloc_some _ x3), (Lib.cell?_alloc_some _ x4)⟩
      clear hK K
      (try simp only [Act.put, List.setIfInBounds_toArray, List.set_cons_zero, List.set_cons_succ])
      refine wpAnyH_ready (rs := [2]) (by kernel_rfl) (by simp) ?_
      refine AllReadyH.cons rfl (fun K hK => ?_) AllReadyH.nil
      go_simp
      clear hHeld
      refine hK.out _ _ ?_ (fun hHeld => ?_)
      · exact ⟨(Lib.cell?_alloc_some _ (Lib.cell?_alloc_some _ x0)), (Lib.cell?_alloc_some _ (Lib.cell?_alloc_some _ x1)), (Lib.cell?_alloc_some _ (Lib.cell?_alloc_some _ x2)), (Lib.cell?_alloc_some _ (Lib.cell?_alloc_some _ x3)), (Lib.cell?_alloc_some _ (Lib.cell?_alloc_some _ x4))⟩
      clear hK K
      (try simp only [Act.put, List.setIfInBounds_toArray, List.set_cons_zero, List.set_cons_succ])
      refine wpAnyH_ready (rs := [4]) (by kernel_rfl) (by simp) ?_
      refine AllReadyH.cons rfl (fun K hK => ?_) AllReadyH.nil
      go_simp
      clear hHeld
      refine hK.out _ _ ?_ (fun hHeld => ?_)
      · exact ⟨(Lib.cell?_alloc_some _ (Lib.cell?_alloc_some _ x0)), (Lib.cell?_alloc_some _ (Lib.cell?_alloc_some _ x1)), (Lib.cell?_alloc_some _ (Lib.cell?_alloc_some _ x2)), (Lib.cell?_alloc_some _ (Lib.cell?_alloc_some _ x3)), (Lib.cell?_alloc_some _ (Lib.cell?_alloc_some _ x4))⟩
      clear hK K
      (try simp only [Act.put, List.setIfInBounds_toArray, List.set_cons_zero, List.set_cons_succ])
      refine wpAnyH_ready (rs := [5]) (by kernel_rfl) (by simp) ?_
      refine AllReadyH.cons rfl (fun K hK => ?_) AllReadyH.nil
      go_simp
      clear hHeld
      refine hK.out _ _ ?_ (fun hHeld => ?_)
      · exact ⟨(Lib.cell?_alloc_some _ (Lib.cell?_alloc_some _ x0)), (Lib.cell?_alloc_some _ (Lib.cell?_alloc_some _ x1)), (Lib.cell?_alloc_some _ (Lib.cell?_alloc_some _ x2)), (Lib.cell?_alloc_some _ (Lib.cell?_alloc_some _ x3)), (Lib.cell?_alloc_some _ (Lib.cell?_alloc_some _ x4))⟩
      clear hK K
      (try simp only [Act.put, List.setIfInBounds_toArray, List.set_cons_zero, List.set_cons_succ])
      refine wpAnyH_done (by kernel_rfl) ?_ _
      have F1 := heap_old (.cells #[.int .i64 o.name, .int .i64 o.rd, .int .i64 o.r1, .int .i64 o.r2, .int .u32 o.imm] 25) (heap_alloc_new wB (.cells #[.int .i64 o.name, .int .i64 o.rd, .int .i64 o.r1, .int .i64 o.r2, .int .u32 o.imm] 25))
      have F2 := heap_alloc_new (wB.alloc (.cells #[.int .i64 o.name, .int .i64 o.rd, .int .i64 o.r1, .int .i64 o.r2, .int .u32 o.imm] 25)) (.cells #[.int .i64 o.name, .int .i64 o.rd, .int .i64 o.r1, .int .i64 o.r2, .int .u32 o.imm] 25)
      have EO2 := heap_old (.cells #[.int .i64 o.name, .int .i64 o.rd, .int .i64 o.r1, .int .i64 o.r2, .int .u32 o.imm] 25) (heap_old (.cells #[.int .i64 o.name, .int .i64 o.rd, .int .i64 o.r1, .int .i64 o.r2, .int .u32 o.imm] 25) EO)
      have B2 := below_al (below_al B (.cells #[.int .i64 o.name, .int .i64 o.rd, .int .i64 o.r1, .int .i64 o.r2, .int .u32 o.imm] 25)) (.cells #[.int .i64 o.name, .int .i64 o.rd, .int .i64 o.r1, .int .i64 o.r2, .int .u32 o.imm] 25)
      have hsz : (wB.alloc (.cells #[.int .i64 o.name, .int .i64 o.rd, .int .i64 o.r1, .int .i64 o.r2, .int .u32 o.imm] 25)).heap.size = wB.heap.size + 1 := by simp
      rw [hsz] at F2
      generalize (wB.alloc (.cells #[.int .i64 o.name, .int .i64 o.rd, .int .i64 o.r1, .int .i64 o.r2, .int .u32 o.imm] 25)).alloc (.cells #[.int .i64 o.name, .int .i64 o.rd, .int .i64 o.r1, .int .i64 o.r2, .int .u32 o.imm] 25) = wF at *
      have P8 := F2
      have P9 := F1
      obtain ⟨p8, e8⟩ : ∃ p, p = wB.heap.size + 1 := ⟨_, rfl⟩
      obtain ⟨p9, e9⟩ : ∃ p, p = wB.heap.size := ⟨_, rfl⟩
      rw [← e8] at P8
      rw [← e9] at P9
      rw [← e8, ← e9]
      have n89 : ¬ p8 = p9 := by omega
      have n98 : ¬ p9 = p8 := by omega
      have n8o : ¬ p8 = w2.heap.size := by have := heap_lt EO; omega
      have n9o : ¬ p9 = w2.heap.size := by have := heap_lt EO; omega
      have no8 : ¬ w2.heap.size = p8 := fun e => n8o e.symm
      have no9 : ¬ w2.heap.size = p9 := fun e => n9o e.symm
      have g8 : w.heap.size ≤ p8 := by have := B.size; omega
      have g9 : w.heap.size ≤ p9 := by have := B.size; omega
      clear e8 e9 F1 F2 hsz hHeld x0 x1 x2 x3 x4 EO B
      obtain ⟨y0, y1, y2, y3, y4, yf⟩ := cells5 P8
      obtain ⟨z0, z1, z2, z3, z4, zf⟩ := cells5 P9
      have EO3 : ((wF.setCell ⟨p8, 1, none⟩ (.int .i64 k)).setCell ⟨p9, 2, none⟩ (.int .i64 k)).heap[w2.heap.size]? = _ := (Below.heap_setCell _ ⟨p9, 2, none⟩ (.int .i64 k) _ no9).trans ((Below.heap_setCell _ ⟨p8, 1, none⟩ (.int .i64 k) _ no8).trans EO2)
      have Q3 := set_one (W := wF.setCell ⟨p8, 1, none⟩ (.int .i64 k)) ((Below.heap_setCell _ ⟨p8, 1, none⟩ (.int .i64 k) _ n98).trans P9) 2 (.int .i64 k)
      have B3 : Below w.heap.size w ((wF.setCell ⟨p8, 1, none⟩ (.int .i64 k)).setCell ⟨p9, 2, none⟩ (.int .i64 k)) := (B2.setCell g8 _).setCell g9 _
      simp only [List.setIfInBounds_toArray, List.set_cons_zero, List.set_cons_succ] at Q3
      obtain ⟨rfl, xx, rfl, f1, f2⟩ | rfl := CASES
      · have f3 : bits .and .u32 (xx / 128) 31 = k := f2
        rcases CASE2 with ⟨kr, rfl⟩ | ⟨kr, rfl | ⟨yy, rfl, g1, g2⟩⟩
        all_goals
          try have g3 : bits .and .u32 (yy / 32768) 31 = k := g2
          unfold encv at N1 N2
          go_wp2_with (first | (go_at_call 12; first | (with_reducible refine (N1 _).mono ?_; rintro e w3 ⟨rfl, b3⟩; clear N1 y0 y1 y2 y3 y4 yf z0 z1 z2 z3 z4 zf; replace EO3 := (b3.block _ (heap_lt EO3)).trans EO3; replace Q3 := (b3.block _ (heap_lt Q3)).trans Q3; (first | replace B3 := Below.then B3 b3 | replace B3 := Below.then B3 (undrew b3)); clear b3; obtain ⟨o0, o1, o2, o3, o4, _⟩ := cells5 EO3; obtain ⟨z0, z1, z2, z3, z4, zf⟩ := cells5 Q3) | (with_reducible refine (N2 _).mono ?_; rintro e w5 ⟨rfl, b5⟩; clear N2 o0 o1 o2 o3 o4 z0 z1 z2 z3 z4 zf; replace EO3 := (b5.block _ (heap_lt EO3)).trans EO3; replace Q3 := (b5.block _ (heap_lt Q3)).trans Q3; (first | replace B3 := Below.then B3 b5 | replace B3 := Below.then B3 (undrew b5)); clear b5; obtain ⟨o0, o1, o2, o3, o4, _⟩ := cells5 EO3)) | (go_at_call 14; refine (P1 _).mono ?_; rintro e w4 ⟨rfl, b4⟩; clear o0 o1 o2 o3 o4 z0 z1 z2 z3 z4 zf; replace EO3 := (b4.block _ (heap_lt EO3)).trans EO3; replace Q3 := (b4.block _ (heap_lt Q3)).trans Q3; (first | replace B3 := Below.then B3 b4 | replace B3 := Below.then B3 (undrew b4)); clear b4; obtain ⟨o0, o1, o2, o3, o4, _⟩ := cells5 EO3; obtain ⟨z0, z1, z2, z3, z4, zf⟩ := cells5 Q3))
        all_goals first | (go_ret; exact ⟨rfl, by first | exact B3 | exact Go.Proofs.Ytpdemjdjgehpgaa.Below.drewN' B3 _⟩) | trace_state
      · rcases CASE2 with ⟨kr, rfl⟩ | ⟨kr, rfl | ⟨yy, rfl, g1, g2⟩⟩
        all_goals
          try have g3 : bits .and .u32 (yy / 32768) 31 = k := g2
          rcases rd with _ | xx
        all_goals
          unfold encv at N1 N2
          go_wp2_with (first | (go_at_call 12; first | (with_reducible refine (N1 _).mono ?_; rintro e w3 ⟨rfl, b3⟩; clear N1 y0 y1 y2 y3 y4 yf z0 z1 z2 z3 z4 zf; replace EO3 := (b3.block _ (heap_lt EO3)).trans EO3; replace Q3 := (b3.block _ (heap_lt Q3)).trans Q3; (first | replace B3 := Below.then B3 b3 | replace B3 := Below.then B3 (undrew b3)); clear b3; obtain ⟨o0, o1, o2, o3, o4, _⟩ := cells5 EO3; obtain ⟨z0, z1, z2, z3, z4, zf⟩ := cells5 Q3) | (with_reducible refine (N2 _).mono ?_; rintro e w5 ⟨rfl, b5⟩; clear N2 o0 o1 o2 o3 o4 z0 z1 z2 z3 z4 zf; replace EO3 := (b5.block _ (heap_lt EO3)).trans EO3; replace Q3 := (b5.block _ (heap_lt Q3)).trans Q3; (first | replace B3 := Below.then B3 b5 | replace B3 := Below.then B3 (undrew b5)); clear b5; obtain ⟨o0, o1, o2, o3, o4, _⟩ := cells5 EO3)) | (go_at_call 14; refine (P1 _).mono ?_; rintro e w4 ⟨rfl, b4⟩; clear o0 o1 o2 o3 o4 z0 z1 z2 z3 z4 zf; replace EO3 := (b4.block _ (heap_lt EO3)).trans EO3; replace Q3 := (b4.block _ (heap_lt Q3)).trans Q3; (first | replace B3 := Below.then B3 b4 | replace B3 := Below.then B3 (undrew b4)); clear b4; obtain ⟨o0, o1, o2, o3, o4, _⟩ := cells5 EO3; obtain ⟨z0, z1, z2, z3, z4, zf⟩ := cells5 Q3))
        all_goals first | (go_ret; exact ⟨rfl, by first | exact B3 | exact Go.Proofs.Ytpdemjdjgehpgaa.Below.drewN' B3 _⟩) | trace_state
end L11Regs
end Go.Proofs.Ytpdemjdjgehpgaa
