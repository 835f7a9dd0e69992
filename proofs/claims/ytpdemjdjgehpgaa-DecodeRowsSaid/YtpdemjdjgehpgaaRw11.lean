/- DecodeRows' closure: the first of five ops that has a word. -/
import Derived.Test.YtpdemjdjgehpgaaKit11
import Derived.Test.YtpdemjdjgehpgaaDcL5
import Derived.Deep.RegionHeld3
namespace Go.Proofs.Ytpdemjdjgehpgaa
open Go.RowKit Dc
set_option linter.unusedVariables false
set_option linter.unusedSimpArgs false
namespace Rows11
open Dec
/-- The first op of some that has a word. -/
def first : List Dc.Op → Option (Dc.Op × Int)
  | [] => none
  | o :: l => match encode o with
    | some z => some (o, z)
    | none => first l
def cands (n a b c : Int) : List Dc.Op := [⟨n, a, b, c, 0⟩, ⟨n, a, b, 0, 0⟩, ⟨n, 0, b, c, 0⟩, ⟨n, a, 0, 0, 0⟩, ⟨n, 0, 0, 0, 0⟩]
def flat5 : List Dc.Op → List Value
  | [] => []
  | o :: l => .int .i64 o.name :: .int .i64 o.rd :: .int .i64 o.r1 :: .int .i64 o.r2 :: .int .u32 o.imm :: flat5 l
theorem flat5_get : ∀ (l : List Dc.Op) (i : Nat), i < l.length → (flat5 l)[i * 5]? = some (.int .i64 (l.getD i Dc.Op.z).name) ∧ (flat5 l)[i * 5 + 1]? = some (.int .i64 (l.getD i Dc.Op.z).rd) ∧ (flat5 l)[i * 5 + 2]? = some (.int .i64 (l.getD i Dc.Op.z).r1) ∧ (flat5 l)[i * 5 + 3]? = some (.int .i64 (l.getD i Dc.Op.z).r2) ∧ (flat5 l)[i * 5 + 4]? = some (.int .u32 (l.getD i Dc.Op.z).imm)
  | [], i, h => absurd h (by simp)
  | p :: l, 0, _ => ⟨rfl, rfl, rfl, rfl, rfl⟩
  | p :: l, i + 1, h => by
    have ih := flat5_get l i (by simpa using h)
    simp only [flat5]
    refine ⟨?_, ?_, ?_, ?_, ?_⟩
    · rw [show (i + 1) * 5 = i * 5 + 1 + 1 + 1 + 1 + 1 by omega]; simpa using ih.1
    · rw [show (i + 1) * 5 + 1 = (i * 5 + 1) + 1 + 1 + 1 + 1 + 1 by omega]; simpa using ih.2.1
    · rw [show (i + 1) * 5 + 2 = (i * 5 + 2) + 1 + 1 + 1 + 1 + 1 by omega]; simpa using ih.2.2.1
    · rw [show (i + 1) * 5 + 3 = (i * 5 + 3) + 1 + 1 + 1 + 1 + 1 by omega]; simpa using ih.2.2.2.1
    · rw [show (i + 1) * 5 + 4 = (i * 5 + 4) + 1 + 1 + 1 + 1 + 1 by omega]; simpa using ih.2.2.2.2
/-- Ops in a row. -/
def Ops (w : World) (b : Nat) (l : List Dc.Op) : Prop := ∀ i, i < l.length → w.cell? ⟨b, i * 5, none⟩ = some (.int .i64 (l.getD i Dc.Op.z).name) ∧ w.cell? ⟨b, i * 5 + 1, none⟩ = some (.int .i64 (l.getD i Dc.Op.z).rd) ∧ w.cell? ⟨b, i * 5 + 2, none⟩ = some (.int .i64 (l.getD i Dc.Op.z).r1) ∧ w.cell? ⟨b, i * 5 + 3, none⟩ = some (.int .i64 (l.getD i Dc.Op.z).r2) ∧ w.cell? ⟨b, i * 5 + 4, none⟩ = some (.int .u32 (l.getD i Dc.Op.z).imm)
theorem Ops.below {w w' : World} {b : Nat} {l : List Dc.Op} (h : Ops w b l) (hb : Below w.heap.size w w') : Ops w' b l := fun i hi => by
  obtain ⟨a0, a1, a2, a3, a4⟩ := h i hi
  exact ⟨below_cell hb a0, below_cell hb a1, below_cell hb a2, below_cell hb a3, below_cell hb a4⟩
theorem ops_new {w : World} {g : Nat} (hg : w.heap.size = g) (l : List Dc.Op) (t : TypeId) : Ops (w.alloc (.cells (flat5 l).toArray t)) g l := by
  subst hg
  have h := heap_alloc_new w (.cells (flat5 l).toArray t)
  intro i hi
  obtain ⟨a0, a1, a2, a3, a4⟩ := flat5_get l i hi
  simp only [World.cell?, h]
  exact ⟨by simpa using a0, by simpa using a1, by simpa using a2, by simpa using a3, by simpa using a4⟩
theorem set5_other {W : World} {b g i : Nat} {v x0 x1 x2 x3 x4 : Value} (h : W.cell? ⟨b, i, none⟩ = some v) (hb : ¬ b = g) : (((((W.setCell ⟨g, 0, none⟩ x0).setCell ⟨g, 1, none⟩ x1).setCell ⟨g, 2, none⟩ x2).setCell ⟨g, 3, none⟩ x3).setCell ⟨g, 4, none⟩ x4).cell? ⟨b, i, none⟩ = some v := by
  have hh : ∀ (W : World) k x, (W.setCell ⟨g, k, none⟩ x).heap[b]? = W.heap[b]? := fun W k x => Below.heap_setCell W ⟨g, k, none⟩ x b hb
  unfold World.cell? at *
  simp only [hh]
  exact h
theorem drew_cell (X : World) (p : Addr) : X.drew.cell? p = X.cell? p := rfl
theorem alloc3_keep (w : World) (p q r : Obj) : (((w.alloc p).alloc q).alloc r).heap[w.heap.size]? = some p :=
  ((alloc1_below ((w.alloc p).alloc q) r).block _ (by simp; omega)).trans (((alloc1_below (w.alloc p) q).block _ (by simp)).trans (heap_alloc_new w p))
theorem first_step (l : List Dc.Op) (j : Nat) (h : j < l.length) : first (l.drop j) = match encode (l.getD j Dc.Op.z) with | some z => some (l.getD j Dc.Op.z, z) | none => first (l.drop (j + 1)) := by
  rw [List.drop_eq_getElem_cons h]
  have : l.getD j Dc.Op.z = l[j] := by simp [List.getD, h]
  rw [this]; rfl
set_option maxHeartbeats 4000000 in
set_option maxRecDepth 100000 in
theorem word_c {w : World} {g : Nat} {x r0 r1 r2 : Int} (hx : 0 ≤ x) (hx' : x < 256) (h0 : 0 ≤ r0 ∧ r0 < 256) (h1 : 0 ≤ r1 ∧ r1 < 256) (h2 : 0 ≤ r2 ∧ r2 < 256)
    (c0 : w.cell? ⟨g, 0, none⟩ = some (.int .u8 r0)) (c1 : w.cell? ⟨g, 1, none⟩ = some (.int .u8 r1)) (c2 : w.cell? ⟨g, 2, none⟩ = some (.int .u8 r2)) (o : Dc.Op) (z : Int) (ho : Hid (first (cands (1 + x % 69) (r0 % 32) (r1 % 32) (r2 % 32)) = some (o, z))) :
    Calls Try.prog 16 #[.int .u8 x, .pointer (some ⟨g, 0, none⟩)] w fun e w' => e = .returned (.tuple #[.int .u32 z, opv o, .bool true]) ∧ Below w.heap.size w w' := by
  have C0 := fun q => Lib.cell?_alloc_some q c0
  have C1 := fun q => Lib.cell?_alloc_some q c1
  have C2 := fun q => Lib.cell?_alloc_some q c2
  have hnm : 1 ≤ 1 + x % 69 ∧ 1 + x % 69 ≤ 69 := by omega
  go_enter Try.func16, Try.ntmps16
  go_wp2_with (go_at_call 12; fail)
  clear C0 C1 C2
  generalize 1 + x % 69 = nm at *
  generalize r0 % 32 = a at *
  generalize r1 % 32 = b at *
  generalize r2 % 32 = c at *
  have hO : Ops (((w.alloc (.cells #[.int .i64 0, .int .i64 0, .int .i64 0, .int .i64 0, .int .u32 0] 25)).alloc (.cells #[.int .i64 nm, .int .i64 a, .int .i64 b, .int .i64 c, .int .u32 0] 25)).alloc (.cells (flat5 (cands nm a b c)).toArray 25)) (w.heap.size + 2) (cands nm a b c) := ops_new (by simp) _ _
  have hZ : (((w.alloc (.cells #[.int .i64 0, .int .i64 0, .int .i64 0, .int .i64 0, .int .u32 0] 25)).alloc (.cells #[.int .i64 nm, .int .i64 a, .int .i64 b, .int .i64 c, .int .u32 0] 25)).alloc (.cells (flat5 (cands nm a b c)).toArray 25)).heap[w.heap.size]? = some (.cells #[.int .i64 0, .int .i64 0, .int .i64 0, .int .i64 0, .int .u32 0] 25) := (alloc3_keep w (.cells #[.int .i64 0, .int .i64 0, .int .i64 0, .int .i64 0, .int .u32 0] 25) (.cells #[.int .i64 nm, .int .i64 a, .int .i64 b, .int .i64 c, .int .u32 0] 25) (.cells (flat5 (cands nm a b c)).toArray 25))
  have hW : Below w.heap.size w (((w.alloc (.cells #[.int .i64 0, .int .i64 0, .int .i64 0, .int .i64 0, .int .u32 0] 25)).alloc (.cells #[.int .i64 nm, .int .i64 a, .int .i64 b, .int .i64 c, .int .u32 0] 25)).alloc (.cells (flat5 (cands nm a b c)).toArray 25)) := below_al (below_al (below_al (Below.refl _ _) _) _) _
  change Code.wp _ _ _ _ (((w.alloc (.cells #[.int .i64 0, .int .i64 0, .int .i64 0, .int .i64 0, .int .u32 0] 25)).alloc (.cells #[.int .i64 nm, .int .i64 a, .int .i64 b, .int .i64 c, .int .u32 0] 25)).alloc (.cells (flat5 (cands nm a b c)).toArray 25))
  generalize ((w.alloc (.cells #[.int .i64 0, .int .i64 0, .int .i64 0, .int .i64 0, .int .u32 0] 25)).alloc (.cells #[.int .i64 nm, .int .i64 a, .int .i64 b, .int .i64 c, .int .u32 0] 25)).alloc (.cells (flat5 (cands nm a b c)).toArray 25) = W1 at *
  go_loopw [53] (fun iv wr => ∃ j : Nat, j ≤ 5 ∧ iv = .int .i64 j ∧ Below W1.heap.size W1 wr ∧ Hid (first ((cands nm a b c).drop j) = some (o, z))) (fun i _ => 5 - (intOf i).toNat)
  case atStart => exact ⟨0, by omega, rfl, Below.refl _ _, ho⟩
  case round =>
    obtain ⟨j, hj, rfl, hB, hE⟩ := hrel
    by_cases hlt : j < 5
    · have hlt2 : (j : Int) < 5 := by omega
      obtain ⟨d0, d1, d2, d3, d4⟩ := (hO.below hB) j hlt
      have hE2 := hE.out
      rw [first_step (cands nm a b c) j hlt] at hE2
      have hqn : ((cands nm a b c).getD j Dc.Op.z).name = nm ∧ ((cands nm a b c).getD j Dc.Op.z).imm = 0 := by
        have : j = 0 ∨ j = 1 ∨ j = 2 ∨ j = 3 ∨ j = 4 := by omega
        rcases this with rfl | rfl | rfl | rfl | rfl <;> exact ⟨rfl, rfl⟩
      generalize (cands nm a b c).getD j Dc.Op.z = q at *
      obtain ⟨rs, hrs⟩ : ∃ rs, Hid (encode q = rs) := ⟨_, rfl⟩
      have NE := fun W => Dec.encode_r q W (by omega) (by omega) (by omega) (by omega) rs hrs
      rw [hrs.out] at hE2
      unfold opv at NE
      clear hE ho hqn
      rcases rs with _ | zz
      · have hE3 : Hid (first ((cands nm a b c).drop (j + 1)) = some (o, z)) := hE2
        clear hE2
        unfold encv at NE
        go_wp2_with (go_at_call 12; refine (NE _).mono ?_; rintro e w5 ⟨rfl, b5⟩; clear NE; obtain ⟨EB, b6⟩ := alloc1_then b5; clear b5; obtain ⟨x0, x1, x2, x3, x4, _⟩ := cells5 EB; have BB := Below.then hB b6; clear b6)
        go_roundw
        case rel => exact ⟨j + 1, by omega, by go_num, BB, hE3⟩
        case measure => simp [intOf]; omega
      · have e1 : q = o ∧ zz = z := by injection hE2 with h; injection h with h3 h4; exact ⟨h3, h4⟩
        obtain ⟨rfl, rfl⟩ := e1
        clear hE2
        unfold encv at NE
        have hsz := hB.size
        have hzl := heap_lt hZ
        go_wp2_with (go_at_call 12; refine (NE _).mono ?_; rintro e w5 ⟨rfl, b5⟩; clear NE; obtain ⟨EB, b6⟩ := alloc1_then b5; clear b5; obtain ⟨x0, x1, x2, x3, x4, _⟩ := cells5 EB; have BB := Below.then hB b6; clear b6)
        have EZ := (BB.block _ (heap_lt hZ)).trans hZ
        obtain ⟨z0, z1, z2, z3, z4, zf⟩ := cells5 EZ
        have lt1 : ¬ wr.heap.size = w.heap.size := by omega
        refine wp_region_held_drew (S := (fun W => W.cell? ⟨wr.heap.size, 0, none⟩ = some (.int .i64 q.name) ∧ W.cell? ⟨wr.heap.size, 1, none⟩ = some (.int .i64 q.rd) ∧ W.cell? ⟨wr.heap.size, 2, none⟩ = some (.int .i64 q.r1) ∧ W.cell? ⟨wr.heap.size, 3, none⟩ = some (.int .i64 q.r2) ∧ W.cell? ⟨wr.heap.size, 4, none⟩ = some (.int .u32 q.imm))) (by kernel_rfl) ?_ (fun hHeld => ?_)
        · exact ⟨x0, x1, x2, x3, x4⟩
        refine wpAnyH_take (i := 0) (v := ?_) rfl (by kernel_rfl) (by kernel_rfl) (by kernel_rfl) (fun _ _ _ h => h) (Or.inl ⟨by kernel_rfl, ?_⟩) (by assumption) ?_
        rotate_left
        · ((intro w hSw; (try dsimp only at hSw); go_simp) <;> with_reducible rfl)
        (try simp only [Act.put, List.setIfInBounds_toArray, List.set_cons_zero, List.set_cons_succ])
        refine wpAnyH_take (i := 1) (v := ?_) rfl (by kernel_rfl) (by kernel_rfl) (by kernel_rfl) (fun _ _ _ h => h) (Or.inl ⟨by kernel_rfl, ?_⟩) (by assumption) ?_
        rotate_left
        · ((intro w hSw; (try dsimp only at hSw); go_simp) <;> with_reducible rfl)
        (try simp only [Act.put, List.setIfInBounds_toArray, List.set_cons_zero, List.set_cons_succ])
        refine wpAnyH_take (i := 2) (v := ?_) rfl (by kernel_rfl) (by kernel_rfl) (by kernel_rfl) (fun _ _ _ h => h) (Or.inl ⟨by kernel_rfl, ?_⟩) (by assumption) ?_
        rotate_left
        · ((intro w hSw; (try dsimp only at hSw); go_simp) <;> with_reducible rfl)
        (try simp only [Act.put, List.setIfInBounds_toArray, List.set_cons_zero, List.set_cons_succ])
        refine wpAnyH_ready (rs := [3]) (by kernel_rfl) (by simp) ?_
        refine AllReadyH.cons rfl (fun K hK => ?_) AllReadyH.nil
        go_simp
        clear hHeld
        refine hK.out _ _ ?_ (fun hHeld => ?_)
        · exact ⟨(drew_cell _ _).trans (set5_other x0 lt1), (drew_cell _ _).trans (set5_other x1 lt1), (drew_cell _ _).trans (set5_other x2 lt1), (drew_cell _ _).trans (set5_other x3 lt1), (drew_cell _ _).trans (set5_other x4 lt1)⟩
        clear hK K
        (try simp only [Act.put, List.setIfInBounds_toArray, List.set_cons_zero, List.set_cons_succ])
        refine wpAnyH_ready (rs := [4]) (by kernel_rfl) (by simp) ?_
        refine AllReadyH.cons rfl (fun K hK => ?_) AllReadyH.nil
        go_simp
        clear hHeld
        refine hK.out _ _ ?_ (fun hHeld => ?_)
        · exact ⟨(drew_cell _ _).trans (set5_other x0 lt1), (drew_cell _ _).trans (set5_other x1 lt1), (drew_cell _ _).trans (set5_other x2 lt1), (drew_cell _ _).trans (set5_other x3 lt1), (drew_cell _ _).trans (set5_other x4 lt1)⟩
        clear hK K
        (try simp only [Act.put, List.setIfInBounds_toArray, List.set_cons_zero, List.set_cons_succ])
        refine wpAnyH_done (by kernel_rfl) ?_ _
        have hz := set5 EZ (.int .i64 q.name) (.int .i64 q.rd) (.int .i64 q.r1) (.int .i64 q.r2) (.int .u32 q.imm)
        have hb := set5_below (Below.then hW BB) (Nat.le_refl w.heap.size) (.int .i64 q.name) (.int .i64 q.rd) (.int .i64 q.r1) (.int .i64 q.r2) (.int .u32 q.imm)
        clear hHeld z0 z1 z2 z3 z4 zf
        generalize (((((w5.setCell ⟨w.heap.size, 0, none⟩ (.int .i64 q.name)).setCell ⟨w.heap.size, 1, none⟩ (.int .i64 q.rd)).setCell ⟨w.heap.size, 2, none⟩ (.int .i64 q.r1)).setCell ⟨w.heap.size, 3, none⟩ (.int .i64 q.r2)).setCell ⟨w.heap.size, 4, none⟩ (.int .u32 q.imm)) = WW at *
        obtain ⟨z0, z1, z2, z3, z4, _⟩ := cells5 hz
        go_wp2
        refine bodyPost_ret (v := .tuple #[.int .u32 zz, opv q, .bool true]) ?_ rfl ⟨rfl, by first | exact hb | exact Go.Proofs.Ytpdemjdjgehpgaa.Below.drewN' hb _⟩
        simp [results, Try.results16, go_sem, z0, z1, z2, z3, z4, opv]
    · obtain rfl : j = 5 := by omega
      have hE2 : none = some (o, z) := hE.out
      cases hE2
end Rows11
end Go.Proofs.Ytpdemjdjgehpgaa
