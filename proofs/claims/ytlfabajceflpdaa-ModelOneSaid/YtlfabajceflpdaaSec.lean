/- Sectors in memory. -/
import Derived.Test.YtlfabajceflpdaaProg
import Derived.Test.YtlfabajceflpdaaMd
import Derived.Test.YtlfabajceflpdaaOpen
import Derived.WalkKit
import Derived.WalkSpells
import Derived.WalkLawsBesides
import Derived.Lib.Hide
import Derived.Deep.QuietTactic
import Derived.BigQuiet
import Derived.Deep.RegionWith
import Derived.Lib.Walk
import Derived.Lib.SliceRun
import Derived.Laws.AppendOwnNone
namespace Go.Proofs.Ytlfabajceflpdaa
open Go.RowKit
set_option linter.unusedVariables false
theorem max2_int (k k' : IntKind) (x y : Int) : Builtin.max2 (.int k x) (.int k' y) = pure (.int k (if x < y then y else x)) := by simp only [Builtin.max2, gt_iff_lt]
theorem min2_int (k k' : IntKind) (x y : Int) : Builtin.min2 (.int k x) (.int k' y) = pure (.int k (if y < x then y else x)) := by simp only [Builtin.min2]
theorem max_two (ats : Array TypeId) (ty : TypeId) (a b : Value) : Builtin.max_ ats ty #[a, b] = (Builtin.max2 a b >>= fun s => pure s) := by simp only [Builtin.max_, List.foldlM_cons, List.foldlM_nil]
theorem min_two (ats : Array TypeId) (ty : TypeId) (a b : Value) : Builtin.min_ ats ty #[a, b] = (Builtin.min2 a b >>= fun s => pure s) := by simp only [Builtin.min_, List.foldlM_cons, List.foldlM_nil]
theorem below_cell {w w' : World} {p : Addr} {v : Value} (hb : Below w.heap.size w w') (h : w.cell? p = some v) : w'.cell? p = some v := (hb.cell (World.block_lt_of_cell? w p h)).trans h
theorem Below.drewN' {B : Nat} {a w : World} (h : Below B a w) (n : Nat) : Below B a (w.drewN n) := ⟨h.os, h.tape, h.output, h.size, h.block⟩
open Md
/-- Four words as a value. -/
def vv (v : V) : Value := .agg #[.int .u32 v.a, .int .u32 v.b, .int .u32 v.c, .int .u32 v.d]
/-- A sector's cells. -/
structure Vat (w : World) (b o : Nat) (v : V) : Prop where
  c0 : w.cell? ⟨b, o, none⟩ = some (.int .u32 v.a)
  c1 : w.cell? ⟨b, o + 1, none⟩ = some (.int .u32 v.b)
  c2 : w.cell? ⟨b, o + 2, none⟩ = some (.int .u32 v.c)
  c3 : w.cell? ⟨b, o + 3, none⟩ = some (.int .u32 v.d)
theorem Vat.below {w w' : World} {b o : Nat} {v : V} (h : Vat w b o v) (hb : Below w.heap.size w w') : Vat w' b o v := ⟨below_cell hb h.c0, below_cell hb h.c1, below_cell hb h.c2, below_cell hb h.c3⟩
/-- A slice of sectors. -/
structure Lv (w : World) (a : Option Addr) (n cap : Nat) (l : List V) : Prop where
  len : l.length = n
  le : n ≤ cap
  is : (a = none ∧ n = 0 ∧ cap = 0) ∨ ∃ ad, a = some ad ∧ ∀ i, i < n → ∃ b off, ad = ⟨b, off, none⟩ ∧ Vat w b (off + i * 4) (l.getD i V.z)
theorem Lv.at_ {w : World} {a : Option Addr} {n cap : Nat} {l : List V} (h : Lv w a n cap l) {i : Nat} (hi : i < n) : ∃ b off, a = some ⟨b, off, none⟩ ∧ ∀ i, i < n → Vat w b (off + i * 4) (l.getD i V.z) := by
  rcases h.is with ⟨_, e, _⟩ | ⟨ad, rfl, hc⟩
  · omega
  · obtain ⟨b, off, rfl, _⟩ := hc i hi
    refine ⟨b, off, rfl, fun j hj => ?_⟩
    obtain ⟨b', off', e, hv⟩ := hc j hj
    cases e
    exact hv
theorem Lv.below {w w' : World} {a : Option Addr} {n cap : Nat} {l : List V} (h : Lv w a n cap l) (hb : Below w.heap.size w w') : Lv w' a n cap l := by
  refine ⟨h.len, h.le, h.is.elim .inl fun ⟨ad, e, hc⟩ => .inr ⟨ad, e, fun i hi => ?_⟩⟩
  obtain ⟨b, off, e, hv⟩ := hc i hi
  exact ⟨b, off, e, hv.below hb⟩
/-- A state as a value. -/
def stv (a : Option Addr) (n cap : Nat) (s : St) : Value := .agg #[.slice a n cap, .bool s.going, .int .i64 s.at_, .int .u32 s.next.a, .int .u32 s.next.b, .int .u32 s.next.c, .int .u32 s.next.d]
/-! Sectors' cells in a row. -/
def flat : List V → List Value
  | [] => []
  | v :: l => .int .u32 v.a :: .int .u32 v.b :: .int .u32 v.c :: .int .u32 v.d :: flat l
theorem flat_len : ∀ l : List V, (flat l).length = l.length * 4
  | [] => rfl
  | v :: l => by simp only [flat, List.length_cons, flat_len l]; omega
theorem flat_app : ∀ l m : List V, flat (l ++ m) = flat l ++ flat m
  | [], _ => rfl
  | v :: l, m => by simp only [flat, List.cons_append, flat_app l m]
theorem flat_get : ∀ (l : List V) (i : Nat), i < l.length → (flat l)[i * 4]? = some (.int .u32 (l.getD i V.z).a) ∧ (flat l)[i * 4 + 1]? = some (.int .u32 (l.getD i V.z).b) ∧ (flat l)[i * 4 + 2]? = some (.int .u32 (l.getD i V.z).c) ∧ (flat l)[i * 4 + 3]? = some (.int .u32 (l.getD i V.z).d)
  | [], i, h => absurd h (by simp)
  | v :: l, 0, _ => ⟨rfl, rfl, rfl, rfl⟩
  | v :: l, i + 1, h => by
    have ih := flat_get l i (by simpa using h)
    simp only [flat]
    refine ⟨?_, ?_, ?_, ?_⟩
    · rw [show (i + 1) * 4 = i * 4 + 1 + 1 + 1 + 1 by omega]; simpa using ih.1
    · rw [show (i + 1) * 4 + 1 = (i * 4 + 1) + 1 + 1 + 1 + 1 by omega]; simpa using ih.2.1
    · rw [show (i + 1) * 4 + 2 = (i * 4 + 2) + 1 + 1 + 1 + 1 by omega]; simpa using ih.2.2.1
    · rw [show (i + 1) * 4 + 3 = (i * 4 + 3) + 1 + 1 + 1 + 1 by omega]; simpa using ih.2.2.2
theorem flat_cell : ∀ (l : List V) (u : Value), u ∈ flat l → u.oneCell' = true
  | [], u, h => by simp [flat] at h
  | v :: l, u, h => by
    simp only [flat, List.mem_cons] at h
    rcases h with rfl | rfl | rfl | rfl | h
    · rfl
    · rfl
    · rfl
    · rfl
    · exact flat_cell l u h
theorem flat_at {w : World} {b off : Nat} {l : List V} (h : ∀ i, i < l.length → Vat w b (off + i * 4) (l.getD i V.z)) (j : Nat) (u : Value) (hu : (flat l)[j]? = some u) : w.cell? (Addr.add ⟨b, off, none⟩ j) = some u := by
  have hj : j < l.length * 4 := by
    have := (List.getElem?_eq_some_iff.1 hu).1
    rwa [flat_len] at this
  have hi : j / 4 < l.length := by omega
  have hv := h (j / 4) hi
  obtain ⟨e0, e1, e2, e3⟩ := flat_get l (j / 4) hi
  rw [Addr.add_lit]
  rcases (show j % 4 = 0 ∨ j % 4 = 1 ∨ j % 4 = 2 ∨ j % 4 = 3 by omega) with c | c | c | c
  · rw [show j = j / 4 * 4 by omega] at hu; rw [hu] at e0; cases e0
    rw [show off + j = off + j / 4 * 4 by omega]; exact hv.c0
  · rw [show j = j / 4 * 4 + 1 by omega] at hu; rw [hu] at e1; cases e1
    rw [show off + j = off + j / 4 * 4 + 1 by omega]; exact hv.c1
  · rw [show j = j / 4 * 4 + 2 by omega] at hu; rw [hu] at e2; cases e2
    rw [show off + j = off + j / 4 * 4 + 2 by omega]; exact hv.c2
  · rw [show j = j / 4 * 4 + 3 by omega] at hu; rw [hu] at e3; cases e3
    rw [show off + j = off + j / 4 * 4 + 3 by omega]; exact hv.c3
/-- A row of sectors of the call's own. -/
def OwnsV (w : World) (B : Nat) (v : Value) (n : Nat) (l : List V) : Prop := w.ownsRow B 24 4 v n (flat l)
theorem OwnsV.lv {w : World} {B n : Nat} {v : Value} {l : List V} (h : OwnsV w B v n l) : ∃ a kap, v = .slice a n kap ∧ Lv w a n kap l ∧ ∀ ad, a = some ad → B ≤ ad.block := by
  obtain ⟨h1, ⟨rfl, rfl⟩ | ⟨g, cap, cur, rfl, hb, hg, hc, hm, hs, ht⟩⟩ := h
  · have : l = [] := by
      have := flat_len l
      exact List.length_eq_zero_iff.1 (by omega)
    subst this
    exact ⟨none, 0, rfl, ⟨rfl, Nat.le_refl _, .inl ⟨rfl, rfl, rfl⟩⟩, fun ad e => by cases e⟩
  · have hl : l.length = n := by have := flat_len l; omega
    have hcell : ∀ j u, (flat l)[j]? = some u → w.cell? ⟨g, 0 + j, none⟩ = some u := fun j u hu => by
      have hj := (List.getElem?_eq_some_iff.1 hu).1
      rw [← ht, List.getElem?_take, if_pos (by omega)] at hu
      simp only [World.cell?, hg]
      rw [Nat.zero_add, ← Array.getElem?_toList]; exact hu
    refine ⟨_, cap, rfl, ⟨hl, hc, .inr ⟨_, rfl, fun i hi => ⟨g, 0, rfl, ?_⟩⟩⟩, fun ad e => by cases e; exact hb⟩
    obtain ⟨e0, e1, e2, e3⟩ := flat_get l i (by omega)
    exact ⟨hcell _ _ e0, hcell _ _ e1, hcell _ _ e2, hcell _ _ e3⟩
/-- A block of sectors: so many, of so many that have room. -/
structure Gv (w : World) (g n cap : Nat) (l : List V) (cur : Array Value) : Prop where
  at_ : w.heap[g]? = some (.cells cur 24 (0, 0))
  size : cur.size = cap * 4
  le : n ≤ cap
  len : l.length = n
  is : ∀ i, i < n → cur[i * 4]? = some (.int .u32 (l.getD i V.z).a) ∧ cur[i * 4 + 1]? = some (.int .u32 (l.getD i V.z).b) ∧ cur[i * 4 + 2]? = some (.int .u32 (l.getD i V.z).c) ∧ cur[i * 4 + 3]? = some (.int .u32 (l.getD i V.z).d)
theorem Gv.lv {w : World} {g n cap : Nat} {l : List V} {cur : Array Value} (h : Gv w g n cap l cur) : Lv w (some ⟨g, 0, none⟩) n cap l := by
  refine ⟨h.len, h.le, .inr ⟨_, rfl, fun i hi => ⟨g, 0, rfl, ?_⟩⟩⟩
  obtain ⟨e0, e1, e2, e3⟩ := h.is i hi
  have hc : ∀ j, w.cell? ⟨g, 0 + j, none⟩ = cur[j]? := fun j => by simp only [World.cell?, h.at_]; rw [Nat.zero_add]; rfl
  exact ⟨(hc _).trans e0, (hc _).trans e1, (hc _).trans e2, (hc _).trans e3⟩
theorem OwnsV.gv {w : World} {B n : Nat} {v : Value} {l : List V} (h : OwnsV w B v n l) (hn : 0 < n) : ∃ g cap cur, v = .slice (some ⟨g, 0, none⟩) n cap ∧ B ≤ g ∧ Gv w g n cap l cur := by
  obtain ⟨h1, ⟨rfl, rfl⟩ | ⟨g, cap, cur, rfl, hb, hg, hc, hm, hs, ht⟩⟩ := h
  · omega
  · have hl : l.length = n := by have := flat_len l; omega
    have hcell : ∀ j u, (flat l)[j]? = some u → cur[j]? = some u := fun j u hu => by
      have hj := (List.getElem?_eq_some_iff.1 hu).1
      rw [← ht, List.getElem?_take, if_pos (by omega)] at hu
      rw [← Array.getElem?_toList]; exact hu
    refine ⟨g, cap, cur, rfl, hb, hg, hs, hc, hl, fun i hi => ?_⟩
    obtain ⟨e0, e1, e2, e3⟩ := flat_get l i (by omega)
    exact ⟨hcell _ _ e0, hcell _ _ e1, hcell _ _ e2, hcell _ _ e3⟩
theorem Gv.cells {w : World} {g n cap : Nat} {l : List V} {cur : Array Value} (h : Gv w g n cap l cur) {k : Nat} (hk : k < n) : (∀ i, w.frozen? ⟨g, i, none⟩ = false) ∧ ∃ u0 u1 u2 u3, w.cell? ⟨g, k * 4, none⟩ = some u0 ∧ w.cell? ⟨g, k * 4 + 1, none⟩ = some u1 ∧ w.cell? ⟨g, k * 4 + 2, none⟩ = some u2 ∧ w.cell? ⟨g, k * 4 + 3, none⟩ = some u3 := by
  obtain ⟨e0, e1, e2, e3⟩ := h.is k hk
  have hc : ∀ j, w.cell? ⟨g, j, none⟩ = cur[j]? := fun j => by simp only [World.cell?, h.at_]; rfl
  exact ⟨fun i => by simp only [World.frozen?, h.at_]; simp, _, _, _, _, (hc _).trans e0, (hc _).trans e1, (hc _).trans e2, (hc _).trans e3⟩
/-- A sector is put. -/
theorem Gv.put {w w' : World} {g n cap k : Nat} {l : List V} {cur : Array Value} (h : Gv w g n cap l cur) (hk : k < n) (v : V)
    (hw : w'.heap[g]? = some (.cells ((((cur.setIfInBounds (k * 4) (.int .u32 v.a)).setIfInBounds (k * 4 + 1) (.int .u32 v.b)).setIfInBounds (k * 4 + 2) (.int .u32 v.c)).setIfInBounds (k * 4 + 3) (.int .u32 v.d)) 24 (0, 0))) : ∃ cur', Gv w' g n cap (l.set k v) cur' := by
  have hs := h.size
  have hl := h.le
  refine ⟨_, hw, by simpa using hs, h.le, by simpa using h.len, fun i hi => ?_⟩
  obtain ⟨e0, e1, e2, e3⟩ := h.is i hi
  rw [Md.getD_set]
  by_cases e : k = i
  · subst e
    rw [if_pos ⟨rfl, by rw [h.len]; exact hk⟩]
    have b0 : k * 4 < cur.size := by omega
    have b1 : k * 4 + 1 < cur.size := by omega
    have b2 : k * 4 + 2 < cur.size := by omega
    have b3 : k * 4 + 3 < cur.size := by omega
    refine ⟨?_, ?_, ?_, ?_⟩ <;> simp [b0, b1, b2, b3]
  · rw [if_neg (fun h => e h.1)]
    refine ⟨?_, ?_, ?_, ?_⟩
    · rw [Array.getElem?_setIfInBounds_ne (by omega), Array.getElem?_setIfInBounds_ne (by omega), Array.getElem?_setIfInBounds_ne (by omega), Array.getElem?_setIfInBounds_ne (by omega)]; exact e0
    · rw [Array.getElem?_setIfInBounds_ne (by omega), Array.getElem?_setIfInBounds_ne (by omega), Array.getElem?_setIfInBounds_ne (by omega), Array.getElem?_setIfInBounds_ne (by omega)]; exact e1
    · rw [Array.getElem?_setIfInBounds_ne (by omega), Array.getElem?_setIfInBounds_ne (by omega), Array.getElem?_setIfInBounds_ne (by omega), Array.getElem?_setIfInBounds_ne (by omega)]; exact e2
    · rw [Array.getElem?_setIfInBounds_ne (by omega), Array.getElem?_setIfInBounds_ne (by omega), Array.getElem?_setIfInBounds_ne (by omega), Array.getElem?_setIfInBounds_ne (by omega)]; exact e3
namespace Sec
theorem info4 : (Try.prog.info? 24).map (fun i => (i.zero, i.size, i.bytes)) = some (some (.agg #[.int .u32 0, .int .u32 0, .int .u32 0, .int .u32 0]), 4, 16) := by kernel_rfl
theorem under4 : Try.prog.underlying 22 = some (.slice 24) := by kernel_rfl
end Sec
theorem grownBy_refl (w : World) (o : Option Nat) : w.grownBy w o := ⟨rfl, rfl, rfl, Nat.le_refl _, fun _ _ _ => rfl⟩
/-- Sectors appended to a row of the call's own. -/
theorem append_v {w : World} {ops : Array Oper} {rest : List Oper} {o : Oper} {a : Act} {Q : Exit → Act → World → Prop} (hgd : Region.wanted o (yielded ops a.tmps) = true) (s x : Operand)
    (ho : o.op = .call { callee := .builtin .append, args := #[s, x], argTypes := #[22, 22] })
    (base : Nat) (v : Value) (n : Nat) (xs : List V) (hs : a.eval s = v) (hown : OwnsV w base v n xs)
    {ad : Option Addr} {m c : Nat} {zs : List V} (hx : a.eval x = .slice ad m c) (hl : Lv w ad m c zs) (hbig : n + m ≤ 100000) (hbase : base ≤ w.heap.size)
    (h : ∀ v' w', OwnsV w' base v' (n + m) (xs ++ zs) → w.grownBy w' v.ownBlock → (v' = .slice none 0 0 ↔ v = .slice none 0 0 ∧ m = 0) → wpList Try.prog ops Q rest (a.put o.dst v') w') : wpList Try.prog ops Q (o :: rest) a w := by
  obtain ⟨i0, hi, hz0, hz1, hz2⟩ := info_parts Sec.info4
  obtain ⟨hl1, hl2, hl3⟩ := hl
  refine wpList_step fun K hK => ?_
  rw [if_pos hgd]
  unfold OwnsV at *
  rcases hl3 with ⟨rfl, rfl, rfl⟩ | ⟨ad, rfl, hc⟩
  · have hz : zs = [] := List.length_eq_zero_iff.1 hl1
    subst hz
    have hrun := run_append_owned_none (P := Try.prog) (w := w) base 22 o.type 24 i0 4 Sec.under4 hi v n _ hown
    unfold Oper.wp
    simp only [execOp, ho, resolve, invoke, builtin, Sem.run_bind, Sem.run_pure, Result.andThen_ok, List.map_toArray, List.map_cons, List.map_nil, hs, hx, hrun]
    exact hK _ _ (h v w (by simpa using hown) (grownBy_refl _ _) (by simp))
  · refine wp_append_own w s x _ ho base 24 i0 (.agg #[.int .u32 0, .int .u32 0, .int .u32 0, .int .u32 0]) 4 16 Sec.under4 hi hz0 hz1 hz2 rfl (by decide) v n _ hs hown ad m c (flat zs) hx (by rw [flat_len, hl1]) ?_ (flat_cell zs) (by unfold maxLen; omega) (by omega) hbase ?_
    · intro j u hj
      have hj2 : j < zs.length * 4 := by
        have := (List.getElem?_eq_some_iff.1 hj).1
        rwa [flat_len] at this
      obtain ⟨b, off, rfl, _⟩ := hc (j / 4) (by omega)
      refine flat_at (l := zs) (fun i hi => ?_) j u hj
      obtain ⟨b', off', e, hv⟩ := hc i (by omega)
      cases e
      exact hv
    · intro v' w' h1 h2 h3
      exact hK _ _ (h v' w' (by rw [flat_app]; exact h1) h2 h3)
end Go.Proofs.Ytlfabajceflpdaa
