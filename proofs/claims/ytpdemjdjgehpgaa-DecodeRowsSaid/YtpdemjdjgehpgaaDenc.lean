/- Contract of decode.Encode. -/
import Derived.Test.YtpdemjdjgehpgaaDwd
import Derived.Deep.RegionHeld3
namespace Go.Proofs.Ytpdemjdjgehpgaa
open Go.RowKit Dc
set_option linter.unusedVariables false
set_option linter.unusedSimpArgs false
namespace Dec
theorem undrew {W w' : World} (h : Below W.drew.heap.size W.drew w') : Below W.heap.size W w' := ⟨h.os, h.tape, h.output, h.size, h.block⟩
theorem cells4f {w : World} {b : Nat} {c0 c1 c2 c3 : Value} {t : TypeId} (h : w.heap[b]? = some (.cells #[c0, c1, c2, c3] t (0, 0))) : w.cell? ⟨b, 0, none⟩ = some c0 ∧ w.cell? ⟨b, 1, none⟩ = some c1 ∧ w.cell? ⟨b, 2, none⟩ = some c2 ∧ w.cell? ⟨b, 3, none⟩ = some c3 ∧ ∀ i, w.frozen? ⟨b, i, none⟩ = false := by
  simp only [World.cell?, World.frozen?, h]
  simp
theorem set4 {W : World} {b : Nat} {c0 c1 c2 c3 : Value} {t : TypeId} (h : W.heap[b]? = some (.cells #[c0, c1, c2, c3] t (0, 0))) (x0 x1 x2 x3 : Value) :
    ((((W.setCell ⟨b, 0, none⟩ x0).setCell ⟨b, 1, none⟩ x1).setCell ⟨b, 2, none⟩ x2).setCell ⟨b, 3, none⟩ x3).heap[b]? = some (.cells #[x0, x1, x2, x3] t (0, 0)) := by
  simp only [World.setCell, Array.getElem?_modify, h, if_true, Option.map_some]
  simp
theorem set4_below {w W : World} {b : Nat} (h : Below w.heap.size w W) (hb : w.heap.size ≤ b) (x0 x1 x2 x3 : Value) : Below w.heap.size w ((((W.setCell ⟨b, 0, none⟩ x0).setCell ⟨b, 1, none⟩ x1).setCell ⟨b, 2, none⟩ x2).setCell ⟨b, 3, none⟩ x3) :=
  (((h.setCell hb _).setCell hb _).setCell hb _).setCell hb _
theorem set4_other {W : World} {b g i : Nat} {v x0 x1 x2 x3 : Value} (h : W.cell? ⟨b, i, none⟩ = some v) (hb : ¬ b = g) : ((((W.setCell ⟨g, 0, none⟩ x0).setCell ⟨g, 1, none⟩ x1).setCell ⟨g, 2, none⟩ x2).setCell ⟨g, 3, none⟩ x3).cell? ⟨b, i, none⟩ = some v := by
  have hh : ∀ (W : World) k x, (W.setCell ⟨g, k, none⟩ x).heap[b]? = W.heap[b]? := fun W k x => Below.heap_setCell W ⟨g, k, none⟩ x b hb
  unfold World.cell? at *
  simp only [hh]
  exact h
theorem Ps.set4 {W : World} {a : Option Addr} {n g : Nat} {l : List (Int × Int × Int)} (h : Ps W a n l) (u0 : W.cell? ⟨g, 0, none⟩ = some (.int .u32 0)) (x0 x1 x2 x3 : Value) : Ps ((((W.setCell ⟨g, 0, none⟩ x0).setCell ⟨g, 1, none⟩ x1).setCell ⟨g, 2, none⟩ x2).setCell ⟨g, 3, none⟩ x3) a n l := by
  refine ⟨h.len, h.is.elim .inl fun ⟨b, e, hc⟩ => .inr ⟨b, e, fun i hi => ?_⟩⟩
  have hb : ¬ b = g := by
    intro e
    subst e
    have := (hc 0 (by omega)).1
    rw [Nat.zero_mul, u0] at this
    cases this
  obtain ⟨c0, c1, c2⟩ := hc i hi
  exact ⟨set4_other c0 hb, set4_other c1 hb, set4_other c2 hb⟩
def encv : Option Int → Value
  | some x => .tuple #[.int .u32 x, .bool true]
  | none => .tuple #[.int .u32 0, .bool false]
theorem enc_ret {rs : Option Int} {V bw : Int} (hr : rs = some bw) (hV : V = bw) : Ending.returned (.tuple #[.int .u32 V, .bool true]) = .returned (encv rs) := by subst hV hr; rfl
theorem enc_ret0 {rs : Option Int} (hr : rs = none) : Ending.returned (.tuple #[.int .u32 0, .bool false]) = .returned (encv rs) := by subst hr; rfl
theorem enc_none {rs : Option Int} {bw : Int} {o : Dc.Op} (h : rs = if word bw = some o then some bw else none) (hw : word bw = none) : rs = none := by rw [h, hw]; rfl
theorem enc_no {rs : Option Int} {bw : Int} {o oo : Dc.Op} (h : rs = if word bw = some o then some bw else none) (hw : word bw = some oo) (e : (oo.name = o.name ∧ oo.rd = o.rd ∧ oo.r1 = o.r1 ∧ oo.r2 = o.r2 ∧ oo.imm = o.imm) → False) : rs = none := by
  rw [h, hw, if_neg (fun q => by cases q; exact e ⟨rfl, rfl, rfl, rfl, rfl⟩)]
theorem enc_yes {rs : Option Int} {bw : Int} {o oo : Dc.Op} (h : rs = if word bw = some o then some bw else none) (hw : word bw = some oo) (e0 : oo.name = o.name) (e1 : oo.rd = o.rd) (e2 : oo.r1 = o.r1) (e3 : oo.r2 = o.r2) (e4 : oo.imm = o.imm) : rs = some bw := by
  have : oo = o := by cases oo; cases o; simp_all
  rw [h, hw, if_pos (by rw [this])]
set_option maxHeartbeats 20000000 in
set_option maxRecDepth 100000 in
theorem encode_r (o : Dc.Op) (w : World) (hi : 0 ≤ o.imm) (hi' : o.imm < 4294967296) (hn0 : -9223372036854775808 ≤ o.name) (hn1 : o.name ≤ 9223372036854775807) (rs : Option Int) (hrs : Hid (encode o = rs)) :
    Calls Try.prog 12 #[opv o] w fun e w' => e = .returned (encv rs) ∧ Below w.heap.size w w' := by
  by_cases hnm : o.name < 1 ∨ 69 < o.name
  · have hrs2 : rs = none := by rw [← hrs.out]; unfold encode; rw [if_pos hnm]
    subst hrs2
    unfold opv
    have hnm2 : o.name < 1 ∨ (1 ≤ o.name ∧ 69 < o.name) := by omega
    clear hnm hrs
    rcases hnm2 with h1 | ⟨h1, h2⟩
    all_goals
      go_enter Try.func12, Try.ntmps12
      go_wp2_with (go_at_call 18; refine (rows_c _).mono ?_; rintro e w1 ⟨g, rfl, R, b1⟩; obtain ⟨E, b2⟩ := alloc1_then b1; clear b1; obtain ⟨z0, z1, z2, z3, z4, zf⟩ := cells5 E)
      go_ret2
      exact ⟨rfl, b2⟩
  · have hnm2 : 1 ≤ o.name ∧ o.name ≤ 69 := by omega
    obtain ⟨j, hj⟩ : ∃ j : Nat, o.name = j + 1 := ⟨(o.name - 1).toNat, by omega⟩
    have hj69 : j < 69 := by omega
    unfold opv
    rw [hj]
    go_enter Try.func12, Try.ntmps12
    go_wp2_with (go_at_call 18; refine (rows_c _).mono ?_; rintro e w1 ⟨g, rfl, R, b1⟩; obtain ⟨E, b2⟩ := alloc1_then b1; clear b1; obtain ⟨z0, z1, z2, z3, z4, zf⟩ := cells5 E; obtain ⟨c0, c1⟩ := R j hj69)
    have hlet := row_letter j hj69
    have hrr := row_rng j hj69
    have SC := shape_c _ hlet
    obtain ⟨av, hav⟩ : ∃ av, Hid (immFrom (frm (row j).2).ps o.imm (row j).1 = av) := ⟨_, rfl⟩
    have henc : encode o = if word (build (frm (row j).2) (row j).1 o) = some o then some (build (frm (row j).2) (row j).1 o) else none := by
      unfold encode
      rw [if_neg hnm, show (o.name - 1).toNat = j by omega]
    obtain ⟨bw, hbw⟩ : ∃ bw, Hid (bw = build (frm (row j).2) (row j).1 o) := ⟨_, rfl⟩
    have hbu : Hid (bw = if (frm (row j).2).r2 = true then Bt.put (if (frm (row j).2).r1 = true then Bt.put (if (frm (row j).2).d = true then Bt.put av 7 5 (o.rd % 4294967296) else av) 15 5 (o.r1 % 4294967296) else if (frm (row j).2).d = true then Bt.put av 7 5 (o.rd % 4294967296) else av) 20 5 (o.r2 % 4294967296) else if (frm (row j).2).r1 = true then Bt.put (if (frm (row j).2).d = true then Bt.put av 7 5 (o.rd % 4294967296) else av) 15 5 (o.r1 % 4294967296) else if (frm (row j).2).d = true then Bt.put av 7 5 (o.rd % 4294967296) else av) := by
      show _ = _
      rw [hbw.out, ← hav.out]; rfl
    rw [← hbw.out, hrs.out] at henc
    have hec := Lib.hid henc
    clear henc hbw
    have h4 := ps4 _ hlet
    generalize row j = r at *
    obtain ⟨pt, lt⟩ := r
    dsimp only at *
    generalize frm lt = f at *
    have q1 := heap_alloc_new w1 (.cells #[.int .u32 pt, .int .u8 lt] 48)
    have q2 := alloc1_below w1 (.cells #[.int .u32 pt, .int .u8 lt] 48)
    generalize w1.alloc (.cells #[.int .u32 pt, .int .u8 lt] 48) = wA at *
    obtain ⟨r0, r1⟩ := cells2 q1
    clear c0 c1
    have lt1 : ¬ w1.heap.size = wA.heap.size := by have := heap_lt q1; omega
    refine wp_region_held_drew (S := fun W => W.cell? ⟨w1.heap.size, 0, none⟩ = some (.int .u32 pt) ∧ W.cell? ⟨w1.heap.size, 1, none⟩ = some (.int .u8 lt)) (by kernel_rfl) ?_ (fun hHeld => ?_)
    · exact ⟨r0, r1⟩
    refine wpAnyH_take (i := 0) (v := ?_) rfl (by kernel_rfl) (by kernel_rfl) (by kernel_rfl) (fun _ _ _ h => h) (Or.inl ⟨by kernel_rfl, ?_⟩) (by assumption) ?_
    rotate_left
    · ((intro w hSw; (try dsimp only at hSw); go_simp) <;> with_reducible rfl)
    (try simp only [Act.put, List.setIfInBounds_toArray, List.set_cons_zero, List.set_cons_succ])
    refine wpAnyH_take (i := 1) (v := ?_) rfl (by kernel_rfl) (by kernel_rfl) (by kernel_rfl) (fun _ _ _ h => h) (Or.inl ⟨by kernel_rfl, ?_⟩) (by assumption) ?_
    rotate_left
    · ((intro w hSw; (try dsimp only at hSw); go_simp) <;> with_reducible rfl)
    (try simp only [Act.put, List.setIfInBounds_toArray, List.set_cons_zero, List.set_cons_succ])
    refine wpAnyH_take (i := 2) (v := ?_) rfl (by kernel_rfl) (by kernel_rfl) (by kernel_rfl) (fun _ _ _ h => h) (Or.inl ⟨by kernel_rfl, ?_⟩) (by assumption) ?_
    rotate_left
    · ((intro w hSw; (try dsimp only at hSw); go_simp) <;> with_reducible rfl)
    (try simp only [Act.put, List.setIfInBounds_toArray, List.set_cons_zero, List.set_cons_succ])
    refine wpAnyH_take (i := 3) (v := ?_) rfl (by kernel_rfl) (by kernel_rfl) (by kernel_rfl) (fun _ _ _ h => h) (Or.inl ⟨by kernel_rfl, ?_⟩) (by assumption) ?_
    rotate_left
    · ((intro w hSw; (try dsimp only at hSw); go_simp) <;> with_reducible rfl)
    (try simp only [Act.put, List.setIfInBounds_toArray, List.set_cons_zero, List.set_cons_succ])
    refine wpAnyH_ready (rs := [4, 5]) (by kernel_rfl) (by simp) ?_
    refine AllReadyH.cons rfl (fun K hK => ?_) (AllReadyH.cons rfl (fun K hK => ?_) AllReadyH.nil)
    · go_simp
      (go_at_call 19; refine (SC _).mono ?_; rintro e w3 ⟨a, n, cap, rfl, P, b3⟩; (try replace b3 := undrew b3); have r0' := below_cell b3 (by first | exact r0 | exact Lib.cell?_alloc_some _ r0); have r1' := below_cell b3 (by first | exact r1 | exact Lib.cell?_alloc_some _ r1); clear r0 r1; have r0 := r0'; have r1 := r1'; clear r0' r1'; unfold fv)
      have b4 := b3
      clear hHeld
      refine hK.out _ _ ?_ (fun hHeld => ?_)
      · exact ⟨r0, r1⟩
      clear hK K
      (try simp only [Act.put, List.setIfInBounds_toArray, List.set_cons_zero, List.set_cons_succ])
      refine wpAnyH_ready (rs := [5]) (by kernel_rfl) (by simp) ?_
      refine AllReadyH.cons rfl (fun K hK => ?_) AllReadyH.nil
      go_simp
      clear hHeld
      refine hK.out _ _ ?_ (fun hHeld => ?_)
      · exact ⟨Lib.cell?_alloc_some _ r0, Lib.cell?_alloc_some _ r1⟩
      clear hK K
      (try simp only [Act.put, List.setIfInBounds_toArray, List.set_cons_zero, List.set_cons_succ])
      refine wpAnyH_take (i := 6) (v := ?_) rfl (by kernel_rfl) (by kernel_rfl) (by kernel_rfl) (fun _ _ _ h => h) (Or.inl ⟨by kernel_rfl, ?_⟩) (by assumption) ?_
      rotate_left
      · ((intro w hSw; (try dsimp only at hSw); go_simp) <;> with_reducible rfl)
      (try simp only [Act.put, List.setIfInBounds_toArray, List.set_cons_zero, List.set_cons_succ])
      refine wpAnyH_ready (rs := [7]) (by kernel_rfl) (by simp) ?_
      refine AllReadyH.cons rfl (fun K hK => ?_) AllReadyH.nil
      go_simp
      clear hHeld
      refine hK.out _ _ ?_ (fun hHeld => ?_)
      · exact ⟨Lib.cell?_alloc_some _ r0, Lib.cell?_alloc_some _ r1⟩
      clear hK K
      (try simp only [Act.put, List.setIfInBounds_toArray, List.set_cons_zero, List.set_cons_succ])
      refine wpAnyH_done (by kernel_rfl) ?_ _
      have FB := heap_alloc_new w3 (.cells #[.int .u32 f.mask, .string (fstr f.d f.r1 f.r2), .int .i64 f.sg, .slice a n cap] 51)
      have BB := below_al (Below.then q2 b3) (.cells #[.int .u32 f.mask, .string (fstr f.d f.r1 f.r2), .int .i64 f.sg, .slice a n cap] 51)
      have PP := P.below (alloc1_below w3 (.cells #[.int .u32 f.mask, .string (fstr f.d f.r1 f.r2), .int .i64 f.sg, .slice a n cap] 51))
      clear r0 r1 hHeld b3 b4 P
      generalize w3.alloc (.cells #[.int .u32 f.mask, .string (fstr f.d f.r1 f.r2), .int .i64 f.sg, .slice a n cap] 51) = wF at *
      generalize w3.heap.size = p at *
      have EO := (BB.block _ (heap_lt E)).trans E
      have B2 := Below.then b2 BB
      clear z0 z1 z2 z3 z4 zf E R q1 lt1 BB
      obtain ⟨x0, x1, x2, x3⟩ := cells4 FB
      have hlen := PP.len
      have hn4 : n ≤ 4 := by omega
      have hn5 : (n : Int) ≤ 4 := by omega
      go_wp2
      clear x0 x1 x2 x3
      go_loopw [6, 37] (fun wv iv wr => ∃ (jj : Nat) (nn : Int), jj ≤ n ∧ iv = .int .i64 jj ∧ wv = .int .u32 nn ∧ 0 ≤ nn ∧ nn < 4294967296 ∧ Below wF.heap.size wF wr ∧ Hid (immFrom (f.ps.drop jj) o.imm nn = av)) (fun _ i _ => n - (intOf i).toNat)
      case atStart => exact ⟨0, pt, Nat.zero_le _, rfl, rfl, hrr.1, hrr.2, Below.refl _ _, hav⟩
      case round =>
        obtain ⟨jj, nn, hjj, rfl, rfl, hnn, hnn', hBB, hE⟩ := hrel
        by_cases hlt : jj < n
        · have hlt2 : (jj : Int) < (n : Int) := by omega
          rcases (PP.below hBB).is with ⟨rfl, h0⟩ | ⟨b, rfl, hc⟩
          · omega
          obtain ⟨c0, c1, c2⟩ := hc jj hlt
          have hd : f.ps.drop jj = f.ps.getD jj (0, 0, 0) :: f.ps.drop (jj + 1) := by
            rw [List.drop_eq_getElem_cons (by omega)]; congr 1; simp [List.getD, List.getElem?_eq_getElem (show jj < f.ps.length by omega)]
          have hE2 := hE.out
          rw [hd] at hE2
          clear hE hd hc
          generalize f.ps.getD jj (0, 0, 0) = q at *
          obtain ⟨qa, qm, qt⟩ := q
          simp only [immFrom] at hE2 c0 c1 c2
          obtain ⟨fl, hfl⟩ : ∃ fl, Hid (Bt.field o.imm qt qm = fl) := ⟨_, rfl⟩
          have fr := Bt.field_rng o.imm qt qm
          rw [hfl.out] at hE2 fr
          obtain ⟨pp, hpp⟩ : ∃ pp, Hid (Bt.put nn qa qm fl = pp) := ⟨_, rfl⟩
          have pr := Bt.put_rng nn qa qm fl
          rw [hpp.out] at hE2 pr
          have hE3 := Lib.hid hE2
          clear hE2
          have FC : ∀ W, Calls Try.prog 29 #[.int .u32 o.imm, .int .i64 qt, .int .i64 qm] W fun e w' => e = .returned (.int .u32 fl) ∧ W = w' := fun W => hfl.out ▸ Bits.field_c o.imm qt qm W hi hi'
          have PC : ∀ W, Calls Try.prog 28 #[.int .u32 nn, .int .i64 qa, .int .i64 qm, .int .u32 fl] W fun e w' => e = .returned (.int .u32 pp) ∧ ∃ n, w' = W.drewN n := fun W => hpp.out ▸ Bits.put_c nn qa qm fl W hnn hnn' fr.1 fr.2
          obtain ⟨_, _, _, _, z4, _⟩ := cells5 ((hBB.block _ (heap_lt EO)).trans EO)
          have Z4 := fun o => Lib.cell?_alloc_some o z4
          go_wp2
          go_quiet (first | (go_at_call 29; first | exact quiet_add_is (FC _) | exact quiet_is (FC _)) | (go_at_call 28; first | exact quiet_add (PC _) | exact Calls.quiet_of (PC _)))
          go_wp2
          go_roundw
          case rel => exact ⟨jj + 1, pp, by omega, by go_num, rfl, pr.1, pr.2, Go.Proofs.Ytpdemjdjgehpgaa.Below.drewN' (below_al hBB _) _, hE3⟩
          case measure => simp [intOf]; omega
        · obtain rfl : jj = n := by omega
          have e0 : f.ps.drop jj = [] := List.drop_eq_nil_of_le (by omega)
          have hE2 := hE.out
          rw [e0] at hE2
          simp only [immFrom] at hE2
          subst hE2
          have hlt2 : ¬ (jj : Int) < (jj : Int) := by omega
          have FB2 := (hBB.block _ (heap_lt FB)).trans FB
          have EO2 := (hBB.block _ (heap_lt EO)).trans EO
          have B3 := Below.then B2 hBB
          clear hE FB EO B2 hBB PP
          obtain ⟨x0, x1, x2, x3⟩ := cells4 FB2
          obtain ⟨z0, z1, z2, z3, z4, _⟩ := cells5 EO2
          have HD : ∀ W, Calls Try.prog 30 #[.agg #[.int .u32 f.mask, .string (fstr f.d f.r1 f.r2), .int .i64 f.sg, .slice a jj cap], .string ⟨#[100]⟩] W fun e w' => e = .returned (.bool f.d) ∧ Below W.heap.size W w' := has_d f a jj cap
          have H1 : ∀ W, Calls Try.prog 30 #[.agg #[.int .u32 f.mask, .string (fstr f.d f.r1 f.r2), .int .i64 f.sg, .slice a jj cap], .string ⟨#[49]⟩] W fun e w' => e = .returned (.bool f.r1) ∧ Below W.heap.size W w' := has_1 f a jj cap
          have H2 : ∀ W, Calls Try.prog 30 #[.agg #[.int .u32 f.mask, .string (fstr f.d f.r1 f.r2), .int .i64 f.sg, .slice a jj cap], .string ⟨#[50]⟩] W fun e w' => e = .returned (.bool f.r2) ∧ Below W.heap.size W w' := has_2 f a jj cap
          generalize fstr f.d f.r1 f.r2 = fz at *
          obtain ⟨rw', hrw⟩ : ∃ rw', Hid (word bw = rw') := ⟨_, rfl⟩
          have HWD : ∀ v, v = bw → 0 ≤ v → v < 4294967296 → ∀ W, Calls Try.prog 10 #[.int .u32 v] W fun e w' => e = .returned (wordv rw') ∧ Below W.heap.size W w' := fun v e h1 h2 W => word_r v W h1 h2 _ (e ▸ hrw)
          go_wp2_with (first | (go_at_call 30; (first | with_reducible refine (HD _).mono ?_ | with_reducible refine (H1 _).mono ?_ | with_reducible refine (H2 _).mono ?_); rintro e w5 ⟨rfl, b5⟩; clear x0 x1 x2 x3 z0 z1 z2 z3 z4; replace FB2 := (b5.block _ (heap_lt FB2)).trans FB2; replace EO2 := (b5.block _ (heap_lt EO2)).trans EO2; (first | replace B3 := Below.then B3 b5 | replace B3 := Below.then (Go.Proofs.Ytpdemjdjgehpgaa.Below.drewN' B3 _) b5); clear b5; obtain ⟨x0, x1, x2, x3⟩ := cells4 FB2; obtain ⟨z0, z1, z2, z3, z4, _⟩ := cells5 EO2) | (go_at_call 28; refine (Bits.put_c _ _ _ _ _ (by first | with_reducible exact hnn | with_reducible exact (Bt.put_rng _ _ _ _).1) (by first | with_reducible exact hnn' | with_reducible exact (Bt.put_rng _ _ _ _).2) (Int.emod_nonneg _ (by decide)) (Int.emod_lt_of_pos _ (by decide))).mono ?_; rintro e w' ⟨rfl, m, rfl⟩) | (go_at_call 10; refine (HWD _ (by rw [hbu.out]; simp only [*, if_true, if_false, Bool.false_eq_true]) (by first | with_reducible exact hnn | with_reducible exact (Bt.put_rng _ _ _ _).1) (by first | with_reducible exact hnn' | with_reducible exact (Bt.put_rng _ _ _ _).2) _).mono ?_; rintro e w6 ⟨rfl, b6⟩; clear HWD x0 x1 x2 x3 z0 z1 z2 z3 z4; replace EO2 := (b6.block _ (heap_lt EO2)).trans EO2; (first | replace B3 := Below.then B3 b6 | replace B3 := Below.then (Go.Proofs.Ytpdemjdjgehpgaa.Below.drewN' B3 _) b6); clear b6; obtain ⟨z0, z1, z2, z3, z4, _⟩ := cells5 EO2; have Z0 := fun q => Lib.cell?_alloc_some q z0; have Z1 := fun q => Lib.cell?_alloc_some q z1; have Z2 := fun q => Lib.cell?_alloc_some q z2; have Z3 := fun q => Lib.cell?_alloc_some q z3; have Z4 := fun q => Lib.cell?_alloc_some q z4; clear z0 z1 z2 z3 z4; rcases rw' with _ | oo; (unfold wordv opv Dc.Op.z); rotate_left; (unfold wordv opv)))
          all_goals
            go_ret2
            refine ⟨?_, by first | exact B3 | exact below_al B3 _ | exact Go.Proofs.Ytpdemjdjgehpgaa.Below.drewN' (below_al B3 _) _⟩
            first
              | (have hr := enc_none hec.out hrw.out; exact enc_ret0 hr)
              | (have hr := enc_no hec.out hrw.out (fun ⟨_, _, _, _, _⟩ => by omega); exact enc_ret0 hr)
              | (have hr := enc_yes hec.out hrw.out (by omega) (by omega) (by omega) (by omega) (by omega); refine enc_ret hr ?_; rw [hbu.out]; simp only [*, if_true, if_false, Bool.false_eq_true])
    · go_simp
      clear hHeld
      refine hK.out _ _ ?_ (fun hHeld => ?_)
      · exact ⟨Lib.cell?_alloc_some _ r0, Lib.cell?_alloc_some _ r1⟩
      clear hK K
      (try simp only [Act.put, List.setIfInBounds_toArray, List.set_cons_zero, List.set_cons_succ])
      refine wpAnyH_ready (rs := [4]) (by kernel_rfl) (by simp) ?_
      refine AllReadyH.cons rfl (fun K hK => ?_) AllReadyH.nil
      go_simp
      (go_at_call 19; refine (SC _).mono ?_; rintro e w3 ⟨a, n, cap, rfl, P, b3⟩; (try replace b3 := undrew b3); have r0' := below_cell b3 (by first | exact r0 | exact Lib.cell?_alloc_some _ r0); have r1' := below_cell b3 (by first | exact r1 | exact Lib.cell?_alloc_some _ r1); clear r0 r1; have r0 := r0'; have r1 := r1'; clear r0' r1'; unfold fv)
      obtain ⟨E3, b4⟩ := alloc1_then b3
      obtain ⟨u0, u1, u2, u3, uf⟩ := cells4f E3
      clear hHeld
      refine hK.out _ _ ?_ (fun hHeld => ?_)
      · exact ⟨r0, r1⟩
      clear hK K
      (try simp only [Act.put, List.setIfInBounds_toArray, List.set_cons_zero, List.set_cons_succ])
      refine wpAnyH_take (i := 6) (v := ?_) rfl (by kernel_rfl) (by kernel_rfl) (by kernel_rfl) (fun _ _ _ h => h) (Or.inl ⟨by kernel_rfl, ?_⟩) (by assumption) ?_
      rotate_left
      · ((intro w hSw; (try dsimp only at hSw); go_simp) <;> with_reducible rfl)
      (try simp only [Act.put, List.setIfInBounds_toArray, List.set_cons_zero, List.set_cons_succ])
      refine wpAnyH_ready (rs := [7]) (by kernel_rfl) (by simp) ?_
      refine AllReadyH.cons rfl (fun K hK => ?_) AllReadyH.nil
      go_simp
      clear hHeld
      refine hK.out _ _ ?_ (fun hHeld => ?_)
      · exact ⟨set4_other r0 lt1, set4_other r1 lt1⟩
      clear hK K
      (try simp only [Act.put, List.setIfInBounds_toArray, List.set_cons_zero, List.set_cons_succ])
      refine wpAnyH_done (by kernel_rfl) ?_ _
      have FB := set4 E3 (.int .u32 f.mask) (.string (fstr f.d f.r1 f.r2)) (.int .i64 f.sg) (.slice a n cap)
      have BB := set4_below (Below.then q2 b4) q2.size (.int .u32 f.mask) (.string (fstr f.d f.r1 f.r2)) (.int .i64 f.sg) (.slice a n cap)
      have PP := P.set4 u0 (.int .u32 f.mask) (.string (fstr f.d f.r1 f.r2)) (.int .i64 f.sg) (.slice a n cap)
      clear r0 r1 hHeld b3 b4 P u0 u1 u2 u3 uf E3
      generalize ((((w3.setCell ⟨wA.heap.size, 0, none⟩ (.int .u32 f.mask)).setCell ⟨wA.heap.size, 1, none⟩ (.string (fstr f.d f.r1 f.r2))).setCell ⟨wA.heap.size, 2, none⟩ (.int .i64 f.sg)).setCell ⟨wA.heap.size, 3, none⟩ (.slice a n cap)) = wF at *
      generalize wA.heap.size = p at *
      have EO := (BB.block _ (heap_lt E)).trans E
      have B2 := Below.then b2 BB
      clear z0 z1 z2 z3 z4 zf E R q1 lt1 BB
      obtain ⟨x0, x1, x2, x3⟩ := cells4 FB
      have hlen := PP.len
      have hn4 : n ≤ 4 := by omega
      have hn5 : (n : Int) ≤ 4 := by omega
      go_wp2
      clear x0 x1 x2 x3
      go_loopw [6, 37] (fun wv iv wr => ∃ (jj : Nat) (nn : Int), jj ≤ n ∧ iv = .int .i64 jj ∧ wv = .int .u32 nn ∧ 0 ≤ nn ∧ nn < 4294967296 ∧ Below wF.heap.size wF wr ∧ Hid (immFrom (f.ps.drop jj) o.imm nn = av)) (fun _ i _ => n - (intOf i).toNat)
      case atStart => exact ⟨0, pt, Nat.zero_le _, rfl, rfl, hrr.1, hrr.2, Below.refl _ _, hav⟩
      case round =>
        obtain ⟨jj, nn, hjj, rfl, rfl, hnn, hnn', hBB, hE⟩ := hrel
        by_cases hlt : jj < n
        · have hlt2 : (jj : Int) < (n : Int) := by omega
          rcases (PP.below hBB).is with ⟨rfl, h0⟩ | ⟨b, rfl, hc⟩
          · omega
          obtain ⟨c0, c1, c2⟩ := hc jj hlt
          have hd : f.ps.drop jj = f.ps.getD jj (0, 0, 0) :: f.ps.drop (jj + 1) := by
            rw [List.drop_eq_getElem_cons (by omega)]; congr 1; simp [List.getD, List.getElem?_eq_getElem (show jj < f.ps.length by omega)]
          have hE2 := hE.out
          rw [hd] at hE2
          clear hE hd hc
          generalize f.ps.getD jj (0, 0, 0) = q at *
          obtain ⟨qa, qm, qt⟩ := q
          simp only [immFrom] at hE2 c0 c1 c2
          obtain ⟨fl, hfl⟩ : ∃ fl, Hid (Bt.field o.imm qt qm = fl) := ⟨_, rfl⟩
          have fr := Bt.field_rng o.imm qt qm
          rw [hfl.out] at hE2 fr
          obtain ⟨pp, hpp⟩ : ∃ pp, Hid (Bt.put nn qa qm fl = pp) := ⟨_, rfl⟩
          have pr := Bt.put_rng nn qa qm fl
          rw [hpp.out] at hE2 pr
          have hE3 := Lib.hid hE2
          clear hE2
          have FC : ∀ W, Calls Try.prog 29 #[.int .u32 o.imm, .int .i64 qt, .int .i64 qm] W fun e w' => e = .returned (.int .u32 fl) ∧ W = w' := fun W => hfl.out ▸ Bits.field_c o.imm qt qm W hi hi'
          have PC : ∀ W, Calls Try.prog 28 #[.int .u32 nn, .int .i64 qa, .int .i64 qm, .int .u32 fl] W fun e w' => e = .returned (.int .u32 pp) ∧ ∃ n, w' = W.drewN n := fun W => hpp.out ▸ Bits.put_c nn qa qm fl W hnn hnn' fr.1 fr.2
          obtain ⟨_, _, _, _, z4, _⟩ := cells5 ((hBB.block _ (heap_lt EO)).trans EO)
          have Z4 := fun o => Lib.cell?_alloc_some o z4
          go_wp2
          go_quiet (first | (go_at_call 29; first | exact quiet_add_is (FC _) | exact quiet_is (FC _)) | (go_at_call 28; first | exact quiet_add (PC _) | exact Calls.quiet_of (PC _)))
          go_wp2
          go_roundw
          case rel => exact ⟨jj + 1, pp, by omega, by go_num, rfl, pr.1, pr.2, Go.Proofs.Ytpdemjdjgehpgaa.Below.drewN' (below_al hBB _) _, hE3⟩
          case measure => simp [intOf]; omega
        · obtain rfl : jj = n := by omega
          have e0 : f.ps.drop jj = [] := List.drop_eq_nil_of_le (by omega)
          have hE2 := hE.out
          rw [e0] at hE2
          simp only [immFrom] at hE2
          subst hE2
          have hlt2 : ¬ (jj : Int) < (jj : Int) := by omega
          have FB2 := (hBB.block _ (heap_lt FB)).trans FB
          have EO2 := (hBB.block _ (heap_lt EO)).trans EO
          have B3 := Below.then B2 hBB
          clear hE FB EO B2 hBB PP
          obtain ⟨x0, x1, x2, x3⟩ := cells4 FB2
          obtain ⟨z0, z1, z2, z3, z4, _⟩ := cells5 EO2
          have HD : ∀ W, Calls Try.prog 30 #[.agg #[.int .u32 f.mask, .string (fstr f.d f.r1 f.r2), .int .i64 f.sg, .slice a jj cap], .string ⟨#[100]⟩] W fun e w' => e = .returned (.bool f.d) ∧ Below W.heap.size W w' := has_d f a jj cap
          have H1 : ∀ W, Calls Try.prog 30 #[.agg #[.int .u32 f.mask, .string (fstr f.d f.r1 f.r2), .int .i64 f.sg, .slice a jj cap], .string ⟨#[49]⟩] W fun e w' => e = .returned (.bool f.r1) ∧ Below W.heap.size W w' := has_1 f a jj cap
          have H2 : ∀ W, Calls Try.prog 30 #[.agg #[.int .u32 f.mask, .string (fstr f.d f.r1 f.r2), .int .i64 f.sg, .slice a jj cap], .string ⟨#[50]⟩] W fun e w' => e = .returned (.bool f.r2) ∧ Below W.heap.size W w' := has_2 f a jj cap
          generalize fstr f.d f.r1 f.r2 = fz at *
          obtain ⟨rw', hrw⟩ : ∃ rw', Hid (word bw = rw') := ⟨_, rfl⟩
          have HWD : ∀ v, v = bw → 0 ≤ v → v < 4294967296 → ∀ W, Calls Try.prog 10 #[.int .u32 v] W fun e w' => e = .returned (wordv rw') ∧ Below W.heap.size W w' := fun v e h1 h2 W => word_r v W h1 h2 _ (e ▸ hrw)
          go_wp2_with (first | (go_at_call 30; (first | with_reducible refine (HD _).mono ?_ | with_reducible refine (H1 _).mono ?_ | with_reducible refine (H2 _).mono ?_); rintro e w5 ⟨rfl, b5⟩; clear x0 x1 x2 x3 z0 z1 z2 z3 z4; replace FB2 := (b5.block _ (heap_lt FB2)).trans FB2; replace EO2 := (b5.block _ (heap_lt EO2)).trans EO2; (first | replace B3 := Below.then B3 b5 | replace B3 := Below.then (Go.Proofs.Ytpdemjdjgehpgaa.Below.drewN' B3 _) b5); clear b5; obtain ⟨x0, x1, x2, x3⟩ := cells4 FB2; obtain ⟨z0, z1, z2, z3, z4, _⟩ := cells5 EO2) | (go_at_call 28; refine (Bits.put_c _ _ _ _ _ (by first | with_reducible exact hnn | with_reducible exact (Bt.put_rng _ _ _ _).1) (by first | with_reducible exact hnn' | with_reducible exact (Bt.put_rng _ _ _ _).2) (Int.emod_nonneg _ (by decide)) (Int.emod_lt_of_pos _ (by decide))).mono ?_; rintro e w' ⟨rfl, m, rfl⟩) | (go_at_call 10; refine (HWD _ (by rw [hbu.out]; simp only [*, if_true, if_false, Bool.false_eq_true]) (by first | with_reducible exact hnn | with_reducible exact (Bt.put_rng _ _ _ _).1) (by first | with_reducible exact hnn' | with_reducible exact (Bt.put_rng _ _ _ _).2) _).mono ?_; rintro e w6 ⟨rfl, b6⟩; clear HWD x0 x1 x2 x3 z0 z1 z2 z3 z4; replace EO2 := (b6.block _ (heap_lt EO2)).trans EO2; (first | replace B3 := Below.then B3 b6 | replace B3 := Below.then (Go.Proofs.Ytpdemjdjgehpgaa.Below.drewN' B3 _) b6); clear b6; obtain ⟨z0, z1, z2, z3, z4, _⟩ := cells5 EO2; have Z0 := fun q => Lib.cell?_alloc_some q z0; have Z1 := fun q => Lib.cell?_alloc_some q z1; have Z2 := fun q => Lib.cell?_alloc_some q z2; have Z3 := fun q => Lib.cell?_alloc_some q z3; have Z4 := fun q => Lib.cell?_alloc_some q z4; clear z0 z1 z2 z3 z4; rcases rw' with _ | oo; (unfold wordv opv Dc.Op.z); rotate_left; (unfold wordv opv)))
          all_goals
            go_ret2
            refine ⟨?_, by first | exact B3 | exact below_al B3 _ | exact Go.Proofs.Ytpdemjdjgehpgaa.Below.drewN' (below_al B3 _) _⟩
            first
              | (have hr := enc_none hec.out hrw.out; exact enc_ret0 hr)
              | (have hr := enc_no hec.out hrw.out (fun ⟨_, _, _, _, _⟩ => by omega); exact enc_ret0 hr)
              | (have hr := enc_yes hec.out hrw.out (by omega) (by omega) (by omega) (by omega) (by omega); refine enc_ret hr ?_; rw [hbu.out]; simp only [*, if_true, if_false, Bool.false_eq_true])
end Dec
end Go.Proofs.Ytpdemjdjgehpgaa
