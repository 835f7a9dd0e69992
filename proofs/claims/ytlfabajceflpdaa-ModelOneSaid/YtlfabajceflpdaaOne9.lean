/- ModelOne's closure: the sectors, with another one in the place of one. -/
import Derived.Test.YtlfabajceflpdaaAny9
namespace Go.Proofs.Ytlfabajceflpdaa
open Go.RowKit Md
set_option linter.unusedVariables false
attribute [local go_sem] max2_int min2_int max_two min_two Sec.eqx Sec.guardx
namespace One9
set_option maxHeartbeats 1000000 in
set_option maxRecDepth 100000 in
theorem with_c {w : World} {g1 g2 : Nat} {a : Option Addr} {n cap k : Nat} {l : List V} (hl : Lv w a n cap l) (hn : n ≤ 2000) (hk : k < n) (v : V)
    (c1 : w.cell? ⟨g1, 0, none⟩ = some (.slice a n cap)) (c2 : w.cell? ⟨g2, 0, none⟩ = some (.int .i64 k)) :
    Calls Try.prog 21 #[vv v, .pointer (some ⟨g1, 0, none⟩), .pointer (some ⟨g2, 0, none⟩)] w fun e w' => ∃ a' cap', e = .returned (.slice a' n cap') ∧ Lv w' a' n cap' (l.set k v) ∧ Below w.heap.size w w' := by
  have h1 := hl.len
  have h2 : (n : Int) ≤ 2000 := by omega
  have hk2 : (k : Int) < (n : Int) := by omega
  unfold vv at *
  have X1 := fun o => Lib.cell?_alloc_some o c1
  go_enter Try.func21, Try.ntmps21
  go_wp2_with (at_builtin; refine append_v (by go_simp) _ _ rfl (w.heap.size + 1) _ 0 [] rfl (World.ownsRow_nil _ _ _ _) rfl (hl.below (alloc1_below _ _)) (by omega) (by simp) ?_; intro u1 w2 o1 g3 _; rw [Nat.zero_add, List.nil_append] at o1; have b3 := (Below.refl _ _).grown g3 (Nat.le_refl _) (by intro k hk; cases hk); obtain ⟨g, cap2, cur, rfl, hg, G⟩ := o1.gv (by omega); obtain ⟨gf, u0, u1, u2, u3, z0, z1, z2, z3⟩ := G.cells (k := k) (by omega); obtain ⟨e1, b4⟩ := alloc1_then b3; obtain ⟨v0, v1, v2, v3, _⟩ := cells4 e1; have c3 := (b4.cell (World.block_lt_of_cell? w _ c2)).trans c2; clear c1 X1 e1 b3 o1 hl g3; have GG := Lib.hid G; clear G; have B4 := Lib.hid b4; clear b4)
  refine bodyPost_ret (v := .slice (some ⟨g, 0, none⟩) n cap2) ?_ rfl ?_
  · simp [results, Try.results21, go_sem]
  · obtain ⟨cur', G2⟩ := GG.out.put (k := k) (by omega) v (put4 GG.out.at_ _ _ _ _)
    exact ⟨_, _, rfl, G2.lv, put4_below B4.out (by omega) _ _ _ _⟩
end One9
end Go.Proofs.Ytlfabajceflpdaa
