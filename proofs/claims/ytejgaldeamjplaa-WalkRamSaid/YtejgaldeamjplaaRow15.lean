/- Words of a memory that was made: appended, and kept. -/
import Derived.Test.YtejgaldeamjplaaKit15
namespace Go.Proofs.Ytejgaldeamjplaa
open Go.RowKit
set_option linter.unusedVariables false
theorem append_w2 {w : World} {ops : Array Oper} {rest : List Oper} {o : Oper} {a : Act} {Q : Exit → Act → World → Prop} (hgd : Region.wanted o (yielded ops a.tmps) = true) (s x : Operand)
    (ho : o.op = .call { callee := .builtin .append, args := #[s, x], argTypes := #[23, 23] })
    (base : Nat) (v : Value) (n : Nat) (xs : List Int) (hs : a.eval s = v) (hown : w.ownsRow base 22 1 v n (xs.map (Value.int .u32)))
    {ad : Option Addr} {m c c' : Nat} {zs : List Int} (hx : a.eval x = .slice ad m c') (hc0 : ad = none → c' = 0) (hl : Wd w ad m c zs) (hbig : n + m ≤ 100000) (hbase : base ≤ w.heap.size)
    (h : ∀ v' w', w'.ownsRow base 22 1 v' (n + m) ((xs ++ zs).map (Value.int .u32)) → w.grownBy w' v.ownBlock → (v' = .slice none 0 0 ↔ v = .slice none 0 0 ∧ m = 0) → wpList Try.prog ops Q rest (a.put o.dst v') w') : wpList Try.prog ops Q (o :: rest) a w := by
  obtain ⟨i0, hi, hz0, hz1, hz2⟩ := info_parts info32
  obtain ⟨hl1, hl2, hl3, _⟩ := hl
  refine wpList_step fun K hK => ?_
  rw [if_pos hgd]
  rcases hl3 with ⟨rfl, rfl, rfl⟩ | ⟨ad, rfl, hc⟩
  · have hz : zs = [] := List.length_eq_zero_iff.1 hl1
    subst hz
    rw [hc0 rfl] at hx
    have hrun := run_append_owned_none (P := Try.prog) (w := w) base 23 o.type 22 i0 1 under32 hi v n _ hown
    unfold Oper.wp
    simp only [execOp, ho, resolve, invoke, builtin, Sem.run_bind, Sem.run_pure, Result.andThen_ok, List.map_toArray, List.map_cons, List.map_nil, hs, hx, hrun]
    exact hK _ _ (h v w (by simpa using hown) (grownBy_refl _ _) (by simp))
  · refine wp_append_own w s x _ ho base 22 i0 (.int .u32 0) 1 4 under32 hi hz0 hz1 hz2 rfl (by decide) v n _ hs hown ad m c' (zs.map (Value.int .u32)) hx (by simp [hl1]) ?_ ?_ (by unfold maxLen; omega) (by omega) hbase ?_
    · intro j u hj
      have hjn : j < zs.length := by
        have := (List.getElem?_eq_some_iff.1 hj).1
        simpa using this
      obtain ⟨b, off, rfl, _⟩ := hc j (by omega)
      obtain ⟨b', off', e', hv⟩ := hc j (by omega)
      cases e'
      rw [Addr.add_lit, hv]
      have e : (zs.map (Value.int .u32))[j]? = some (Value.int .u32 (zs.getD j 0)) := by simp [List.getD, hjn]
      rw [e] at hj
      exact hj
    · intro u hu; obtain ⟨x, _, rfl⟩ := List.mem_map.1 hu; rfl
    · intro v' w' h1 h2 h3
      exact hK _ _ (h v' w' (by simpa using h1) h2 h3)
/-- A row of words that the call itself made. -/
def Mrow (w : World) (a : Option Addr) (r n kap : Nat) (zs : List Int) : Prop :=
  (a = none ∧ n = 0 ∧ kap = 0) ∨ (a = some ⟨r, 0, none⟩ ∧ ∃ cur, w.heap[r]? = some (.cells cur 22 (0, 0)) ∧ ∀ i, i < n → cur[i]? = some (.int .u32 (zs.getD i 0)))
theorem Mrow.wd {w : World} {a : Option Addr} {r n kap : Nat} {zs : List Int} (h : Mrow w a r n kap zs) (hl : zs.length = n) (z0 : ∀ i : Nat, 0 ≤ zs.getD i 0 ∧ zs.getD i 0 < 4294967296) : Wd w a n (max kap n) zs := by
  refine ⟨hl, Nat.le_max_right _ _, ?_, z0⟩
  rcases h with ⟨e1, e2, e3⟩ | ⟨e, cur, hc, hi⟩
  · exact .inl ⟨e1, e2, by omega⟩
  · refine .inr ⟨_, e, fun i hi' => ⟨r, 0, rfl, ?_⟩⟩
    rw [Nat.zero_add]
    simp only [World.cell?, hc]
    exact hi i hi'
theorem Mrow.kp {w w' : World} {a : Option Addr} {r q n kap : Nat} {zs : List Int} (h : Mrow w a r n kap zs) (k : Walk.Kp q w w') (hn : a ≠ none → ¬ r = q) : Mrow w' a r n kap zs := by
  rcases h with e | ⟨e, cur, hc, hi⟩
  · exact .inl e
  · exact .inr ⟨e, cur, (k.block r (Array.getElem?_eq_some_iff.1 hc).1 (hn (by rw [e]; simp))).trans hc, hi⟩
theorem Mrow.below {w w' : World} {a : Option Addr} {r n kap : Nat} {zs : List Int} (h : Mrow w a r n kap zs) (b : Below w.heap.size w w') : Mrow w' a r n kap zs := by
  rcases h with e | ⟨e, cur, hc, hi⟩
  · exact .inl e
  · exact .inr ⟨e, cur, (b.block r (Array.getElem?_eq_some_iff.1 hc).1).trans hc, hi⟩
theorem Mrow.of {w w1 : World} {v : Value} {n : Nat} {zs : List Int} (h : w1.ownsRow w.heap.size 22 1 v n (zs.map (Value.int .u32))) (hl : zs.length = n) : ∃ r a kap, v = .slice a n kap ∧ Mrow w1 a r n kap zs ∧ (a ≠ none → w.heap.size ≤ r) := by
  subst hl
  obtain ⟨r, a, kap, e, _, h⟩ := ram_owns (w := w) h (Nat.le_refl _)
  rcases h with ⟨h1, h2, h3⟩ | ⟨h1, h2, _, cur, h4, h5⟩
  · exact ⟨r, a, kap, e, .inl ⟨h1, h2, h3⟩, fun hn => absurd h1 hn⟩
  · exact ⟨r, a, kap, e, .inr ⟨h1, cur, h4, h5⟩, fun _ => h2⟩
theorem ram_wd2 {w0 w : World} {g r : Nat} {base : Int} {a : Option Addr} {kap n : Nat} {zs : List Int} (h : RamAt w0 w g r base a kap zs) (hn : zs.length = n) : Wd w a n (max kap n) zs := by
  subst hn
  refine ⟨rfl, Nat.le_max_right _ _, ?_, h.z0⟩
  rcases h.rows with ⟨e1, e2, e3⟩ | ⟨e, _, _, cur, hc, hi⟩
  · exact .inl ⟨e1, e2, by omega⟩
  · refine .inr ⟨_, e, fun i hi' => ⟨r, 0, rfl, ?_⟩⟩
    rw [Nat.zero_add]
    simp only [World.cell?, hc]
    exact hi i hi'
theorem ram_cap {w0 w : World} {g r : Nat} {base : Int} {a : Option Addr} {kap : Nat} {zs : List Int} (h : RamAt w0 w g r base a kap zs) : a = none → kap = 0 := by
  rcases h.rows with ⟨_, _, e3⟩ | ⟨e, _⟩
  · exact fun _ => e3
  · intro h; rw [e] at h; cases h
theorem drewn_below {B : Nat} {w0 w : World} (h : Below B w0 w) (n : Nat) : Below B w0 (w.drewN n) := ⟨h.os, h.tape, h.output, h.size, h.block⟩
theorem alloc_append {w w' : World} (g1 : w.grownBy w' (Value.slice none 0 0).ownBlock) : Below w.heap.size w w' := (Below.refl _ _).grown g1 (Nat.le_refl _) (by intro k hk; cases hk)
end Go.Proofs.Ytejgaldeamjplaa
