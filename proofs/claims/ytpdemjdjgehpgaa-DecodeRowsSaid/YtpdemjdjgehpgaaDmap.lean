/- The two maps of form.op. -/
import Derived.Test.YtpdemjdjgehpgaaDnum
import Derived.Test.YtpdemjdjgehpgaaDrow
import Derived.Maps.OwnSet
import Derived.Maps.OwnOps
import Derived.Maps.RangeWalk
namespace Go.Proofs.Ytpdemjdjgehpgaa
open Go.RowKit Dc Go.Maps
set_option linter.unusedVariables false
namespace Dec
theorem alloc1_below (w : World) (o1 : Obj) : Below w.heap.size w (w.alloc o1) := (Below.refl _ w).alloc (Nat.le_refl _) o1
theorem alloc1_then {w w1 : World} {o1 : Obj} (b : Below (w.alloc o1).heap.size (w.alloc o1) w1) : w1.heap[w.heap.size]? = some o1 ∧ Below w.heap.size w w1 :=
  ⟨(b.block _ (by simp)).trans (heap_alloc_new w o1), Below.then ((Below.refl _ w).alloc (Nat.le_refl _) o1) b⟩
theorem alloc2_below (w : World) (o1 o2 : Obj) : Below w.heap.size w ((w.alloc o1).alloc o2) := ((Below.refl _ w).alloc (Nat.le_refl _) o1).alloc (by simp) o2
theorem alloc2_then {w w1 : World} {o1 o2 : Obj} (b : Below ((w.alloc o1).alloc o2).heap.size ((w.alloc o1).alloc o2) w1) : w1.heap[w.heap.size]? = some o1 ∧ w1.heap[w.heap.size + 1]? = some o2 ∧ Below w.heap.size w w1 := by
  refine ⟨(b.block _ (by simp; omega)).trans ?_, (b.block _ (by simp)).trans ?_, Below.then (alloc2_below w o1 o2) b⟩
  · have := (alloc1_below (w.alloc o1) o2).block w.heap.size (by simp)
    exact this.trans (heap_alloc_new w o1)
  · have := heap_alloc_new (w.alloc o1) o2
    simpa using this
theorem underStr : Try.prog.underlying 9 = some .string := by kernel_rfl
theorem lawStr : Keyed Try.prog 9 := string_keyed underStr
theorem underOut : Try.prog.underlying 69 = some (.map 9 68) := by kernel_rfl
theorem underIn : Try.prog.underlying 71 = some (.map 9 3) := by kernel_rfl
theorem underInt : Try.prog.underlying 3 = some (.int .i64) := by kernel_rfl
theorem zeroInt (w : World) : (zeroValue 3).run Try.prog w = .ok (.int .i64 0) w := by kernel_rfl
/-- Pointers into one block, read as places. -/
def ptr (g : Nat) (v : Value) : Option (DataW Unit × List MemPlace) :=
  match v with
  | .pointer (some ⟨b, i, none⟩) => if b = g then some (.lit (.int .i64 i), []) else none
  | _ => none
theorem ptr_mk (g i : Nat) : ptr g (.pointer (some ⟨g, i, none⟩)) = some (.lit (.int .i64 i), []) := by simp [ptr]
theorem ptr_inv {g : Nat} {v : Value} {y : DataW Unit × List MemPlace} (h : ptr g v = some y) : ∃ i : Nat, v = .pointer (some ⟨g, i, none⟩) := by
  unfold ptr at h
  split at h
  · rename_i b i
    split at h
    · rename_i e; subst e; exact ⟨i, rfl⟩
    · cases h
  · cases h
abbrev kd : Lit := .string [100]
abbrev k1 : Lit := .string [49]
abbrev k2 : Lit := .string [50]
theorem key_d : keyOf Try.prog 9 (.string ⟨#[100]⟩) = some kd := Go.WideMaps.keyOf_string_mk underStr (by decide)
theorem key_1 : keyOf Try.prog 9 (.string ⟨#[49]⟩) = some k1 := Go.WideMaps.keyOf_string_mk underStr (by decide)
theorem key_2 : keyOf Try.prog 9 (.string ⟨#[50]⟩) = some k2 := Go.WideMaps.keyOf_string_mk underStr (by decide)
def three (a b c : Int) : DataW Unit := (((DataW.map []).put kd (.lit (.int .i64 a))).put k1 (.lit (.int .i64 b))).put k2 (.lit (.int .i64 c))
theorem three_eq (a b c : Int) : three a b c = .map [(k1, .lit (.int .i64 b)), (k2, .lit (.int .i64 c)), (kd, .lit (.int .i64 a))] := by kernel_rfl
theorem three_has {a b c : Int} {kl : Lit} (h : has (three a b c) kl = true) : kl = kd ∨ kl = k1 ∨ kl = k2 := by
  rw [three_eq] at h
  simp only [has, List.any_cons, List.any_nil, Bool.or_false, Bool.or_eq_true] at h
  rcases h with h | h | h
  · exact .inr (.inl (WideAt.sameKey_eq h).symm)
  · exact .inr (.inr (WideAt.sameKey_eq h).symm)
  · exact .inl (WideAt.sameKey_eq h).symm
theorem three_d (a b c : Int) (zd : DataW Unit) : (three a b c).atKey kd zd = .lit (.int .i64 a) := by rw [three_eq]; kernel_rfl
theorem three_1 (a b c : Int) (zd : DataW Unit) : (three a b c).atKey k1 zd = .lit (.int .i64 b) := by rw [three_eq]; kernel_rfl
theorem three_2 (a b c : Int) (zd : DataW Unit) : (three a b c).atKey k2 zd = .lit (.int .i64 c) := by rw [three_eq]; kernel_rfl
theorem next_cases {g : Nat} {x : ByteArray} {i : Nat} {kl : Lit} {y : DataW Unit × List MemPlace} (hkey : keyOf Try.prog 9 (.string x) = some kl) (hh : has (three 1 2 3) kl = true)
    (hR : ptr g (.pointer (some ⟨g, i, none⟩)) = some y) (hat : ∀ zd, (three 1 2 3).atKey kl zd = y.1) :
    (kl = kd ∧ x = ⟨#[100]⟩ ∧ i = 1) ∨ (kl = k1 ∧ x = ⟨#[49]⟩ ∧ i = 2) ∨ (kl = k2 ∧ x = ⟨#[50]⟩ ∧ i = 3) := by
  rw [ptr_mk] at hR
  cases hR
  have hat0 := hat (.lit (.bool false))
  rcases three_has hh with rfl | rfl | rfl
  · rw [three_d] at hat0
    have e := lawStr.inj hkey key_d
    cases e
    refine .inl ⟨rfl, rfl, ?_⟩
    injection hat0 with h1; injection h1 with _ h2; omega
  · rw [three_1] at hat0
    have e := lawStr.inj hkey key_1
    cases e
    refine .inr (.inl ⟨rfl, rfl, ?_⟩)
    injection hat0 with h1; injection h1 with _ h2; omega
  · rw [three_2] at hat0
    have e := lawStr.inj hkey key_2
    cases e
    refine .inr (.inr ⟨rfl, rfl, ?_⟩)
    injection hat0 with h1; injection h1 with _ h2; omega
/-- The map of the registers' places in a word. -/
theorem lit_in (W : World) : ∃ Wa Wb Wc, (Instr.mapUpdate 71 (.map (some W.heap.size)) (.string ⟨#[100]⟩) (.int .i64 7)).run Try.prog (W.alloc (.map #[] 0)) = .ok () Wa ∧
    (Instr.mapUpdate 71 (.map (some W.heap.size)) (.string ⟨#[49]⟩) (.int .i64 15)).run Try.prog Wa = .ok () Wb ∧
    (Instr.mapUpdate 71 (.map (some W.heap.size)) (.string ⟨#[50]⟩) (.int .i64 20)).run Try.prog Wb = .ok () Wc ∧
    (Instr.lookup 71 (.map (some W.heap.size)) (.string ⟨#[100]⟩) false).run Try.prog Wc = .ok (.int .i64 7) Wc ∧
    (Instr.lookup 71 (.map (some W.heap.size)) (.string ⟨#[49]⟩) false).run Try.prog Wc = .ok (.int .i64 15) Wc ∧
    (Instr.lookup 71 (.map (some W.heap.size)) (.string ⟨#[50]⟩) false).run Try.prog Wc = .ok (.int .i64 20) Wc ∧ W.grownBy Wc none := by
  have pe : ∀ a : Int, 0 ≤ a → a < 4096 → plainElem (H := Unit) Try.prog 3 (.int .i64 a) = some (.lit (.int .i64 a), []) := fun a h1 h2 => plainElem_int underInt (WalkArith.wf_i64 (by omega))
  obtain ⟨w1, r1, o1, g1⟩ := (World.ownsMap_made (H := Unit) W Try.prog 9 (plainElem Try.prog 3)).update lawStr underIn (by decide) key_d (pe 7 (by decide) (by decide))
  obtain ⟨w2, r2, o2, g2⟩ := o1.update lawStr underIn (by decide) key_1 (pe 15 (by decide) (by decide))
  obtain ⟨w3, r3, o3, g3⟩ := o2.update lawStr underIn (by decide) key_2 (pe 20 (by decide) (by decide))
  have G : W.grownBy w3 none := ((World.grownBy_alloc W (.map #[] 0) none).andThen ((g1.andThen g2 (fun j h => .inr h)).andThen g3 (fun j h => .inr h)) (fun j h => .inl (by cases h; exact Nat.le_refl _)))
  obtain ⟨c1, h1, a1, _⟩ := o3.lookup_int lawStr underIn underInt (zeroInt _) key_d
  obtain ⟨c2, h2, a2, _⟩ := o3.lookup_int lawStr underIn underInt (zeroInt _) key_1
  obtain ⟨c3, h3, a3, _⟩ := o3.lookup_int lawStr underIn underInt (zeroInt _) key_2
  have e1 := (three_d 7 15 20 _).symm.trans a1
  have e2 := (three_1 7 15 20 _).symm.trans a2
  have e3 := (three_2 7 15 20 _).symm.trans a3
  cases e1; cases e2; cases e3
  exact ⟨w1, w2, w3, r1, r2, r3, h1, h2, h3, G⟩
/-- The map of the registers' places in memory. -/
theorem lit_out (W : World) (g mb : Nat) (hmb : W.heap.size = mb) : ∃ Wa Wb Wc, (Instr.mapUpdate 69 (.map (some mb)) (.string ⟨#[100]⟩) (.pointer (some ⟨g, 1, none⟩))).run Try.prog (W.alloc (.map #[] 0)) = .ok () Wa ∧
    (Instr.mapUpdate 69 (.map (some mb)) (.string ⟨#[49]⟩) (.pointer (some ⟨g, 2, none⟩))).run Try.prog Wa = .ok () Wb ∧
    (Instr.mapUpdate 69 (.map (some mb)) (.string ⟨#[50]⟩) (.pointer (some ⟨g, 3, none⟩))).run Try.prog Wb = .ok () Wc ∧
    Wc.ownsMap Try.prog 9 (ptr g) mb 3 (three 1 2 3) ∧ W.grownBy Wc none := by
  subst hmb
  obtain ⟨w1, r1, o1, g1⟩ := (World.ownsMap_made (H := Unit) W Try.prog 9 (ptr g)).update lawStr underOut (by decide) key_d (ptr_mk g 1)
  obtain ⟨w2, r2, o2, g2⟩ := o1.update lawStr underOut (by decide) key_1 (ptr_mk g 2)
  obtain ⟨w3, r3, o3, g3⟩ := o2.update lawStr underOut (by decide) key_2 (ptr_mk g 3)
  have G : W.grownBy w3 none := ((World.grownBy_alloc W (.map #[] 0) none).andThen ((g1.andThen g2 (fun j h => .inr h)).andThen g3 (fun j h => .inr h)) (fun j h => .inl (by cases h; exact Nat.le_refl _)))
  exact ⟨w1, w2, w3, r1, r2, r3, o3, G⟩
theorem below_grown {W W' : World} (h : Below W.heap.size W W') : W.grownBy W' none := ⟨h.os, h.tape, h.output, h.size, fun i hi _ => h.block i hi⟩
theorem cells4 {w : World} {b : Nat} {c0 c1 c2 c3 : Value} {t : TypeId} (h : w.heap[b]? = some (.cells #[c0, c1, c2, c3] t (0, 0))) : w.cell? ⟨b, 0, none⟩ = some c0 ∧ w.cell? ⟨b, 1, none⟩ = some c1 ∧ w.cell? ⟨b, 2, none⟩ = some c2 ∧ w.cell? ⟨b, 3, none⟩ = some c3 := by
  simp only [World.cell?, h]
  simp
theorem cells5 {w : World} {b : Nat} {c0 c1 c2 c3 c4 : Value} {t : TypeId} (h : w.heap[b]? = some (.cells #[c0, c1, c2, c3, c4] t (0, 0))) : w.cell? ⟨b, 0, none⟩ = some c0 ∧ w.cell? ⟨b, 1, none⟩ = some c1 ∧ w.cell? ⟨b, 2, none⟩ = some c2 ∧ w.cell? ⟨b, 3, none⟩ = some c3 ∧ w.cell? ⟨b, 4, none⟩ = some c4 ∧ ∀ i, w.frozen? ⟨b, i, none⟩ = false := by
  simp only [World.cell?, World.frozen?, h]
  simp
theorem set5 {W : World} {b : Nat} {c0 c1 c2 c3 c4 : Value} {t : TypeId} (h : W.heap[b]? = some (.cells #[c0, c1, c2, c3, c4] t (0, 0))) (x0 x1 x2 x3 x4 : Value) :
    (((((W.setCell ⟨b, 0, none⟩ x0).setCell ⟨b, 1, none⟩ x1).setCell ⟨b, 2, none⟩ x2).setCell ⟨b, 3, none⟩ x3).setCell ⟨b, 4, none⟩ x4).heap[b]? = some (.cells #[x0, x1, x2, x3, x4] t (0, 0)) := by
  simp only [World.setCell, Array.getElem?_modify, h, if_true, Option.map_some]
  simp
theorem set5_below {w W : World} {b : Nat} (h : Below w.heap.size w W) (hb : w.heap.size ≤ b) (x0 x1 x2 x3 x4 : Value) : Below w.heap.size w (((((W.setCell ⟨b, 0, none⟩ x0).setCell ⟨b, 1, none⟩ x1).setCell ⟨b, 2, none⟩ x2).setCell ⟨b, 3, none⟩ x3).setCell ⟨b, 4, none⟩ x4) :=
  ((((h.setCell hb _).setCell hb _).setCell hb _).setCell hb _).setCell hb _
/-- form.op's loop under way. -/
structure OpSt (w : World) (g mb rr : Nat) (f0 f1 f2 f3 : Value) (k rv : Int) (left : Lit → Bool) (cnt : Nat) (rd r1 r2 : Int) (W : World) : Prop where
  rg : W.ranges Try.prog 9 (ptr g) mb rr 3 (three 1 2 3) left cnt
  below : Below w.heap.size w W
  fb : W.heap[w.heap.size]? = some (.cells #[f0, f1, f2, f3] 51 (0, 0))
  rb : W.heap[w.heap.size + 1]? = some (.cells #[.int .i64 0, .int .i64 0, .int .i64 0, .int .i64 0, .int .u32 0] 25 (0, 0))
  ob : W.heap[g]? = some (.cells #[.int .i64 k, .int .i64 rd, .int .i64 r1, .int .i64 r2, .int .u32 rv] 25 (0, 0))
section
variable {w : World} {g mb rr : Nat} {f0 f1 f2 f3 : Value} {k rv : Int} {left : Lit → Bool} {cnt : Nat} {rd r1 r2 : Int} {W W' : World}
theorem heap_lt {W : World} {b : Nat} {o : Obj} (h : W.heap[b]? = some o) : b < W.heap.size := (Array.getElem?_eq_some_iff.1 h).1
theorem OpSt.grown (S : OpSt w g mb rr f0 f1 f2 f3 k rv left cnt rd r1 r2 W) (h : W.grownBy W' none) : OpSt w g mb rr f0 f1 f2 f3 k rv left cnt rd r1 r2 W' :=
  ⟨S.rg.kept h (by simp) (by simp), S.below.grown h S.below.size (by intro k hk; cases hk), (h.block _ (heap_lt S.fb) (by simp)).trans S.fb, (h.block _ (heap_lt S.rb) (by simp)).trans S.rb, (h.block _ (heap_lt S.ob) (by simp)).trans S.ob⟩
theorem OpSt.nexts (S : OpSt w g mb rr f0 f1 f2 f3 k rv left cnt rd r1 r2 W) (hw : w.heap.size + 1 < g) (hg : g < mb) (hr : mb < rr) {left' : Lit → Bool} {cnt' : Nat} (h : W.grownBy W' (some rr)) (h2 : W'.ranges Try.prog 9 (ptr g) mb rr 3 (three 1 2 3) left' cnt') : OpSt w g mb rr f0 f1 f2 f3 k rv left' cnt' rd r1 r2 W' :=
  ⟨h2, S.below.grown h S.below.size (by intro k hk; cases hk; omega), (h.block _ (heap_lt S.fb) (by simp; omega)).trans S.fb, (h.block _ (heap_lt S.rb) (by simp; omega)).trans S.rb, (h.block _ (heap_lt S.ob) (by simp; omega)).trans S.ob⟩
theorem OpSt.drewN (S : OpSt w g mb rr f0 f1 f2 f3 k rv left cnt rd r1 r2 W) (n : Nat) : OpSt w g mb rr f0 f1 f2 f3 k rv left cnt rd r1 r2 (W.drewN n) :=
  ⟨S.rg, Go.Proofs.Ytpdemjdjgehpgaa.Below.drewN' S.below n, S.fb, S.rb, S.ob⟩
theorem OpSt.put (S : OpSt w g mb rr f0 f1 f2 f3 k rv left cnt rd r1 r2 W) (hw : w.heap.size + 1 < g) (hg : g < mb) (hr : mb < rr) {rd' r1' r2' : Int} (i : Nat) (v : Value)
    (e : (#[.int .i64 k, .int .i64 rd, .int .i64 r1, .int .i64 r2, .int .u32 rv] : Array Value).setIfInBounds i v = #[.int .i64 k, .int .i64 rd', .int .i64 r1', .int .i64 r2', .int .u32 rv]) : OpSt w g mb rr f0 f1 f2 f3 k rv left cnt rd' r1' r2' (W.setCell ⟨g, i, none⟩ v) := by
  have hh : ∀ b, ¬ b = g → (W.setCell ⟨g, i, none⟩ v).heap[b]? = W.heap[b]? := fun b hb => Below.heap_setCell W ⟨g, i, none⟩ v b hb
  have hob : (W.setCell ⟨g, i, none⟩ v).heap[g]? = some (.cells #[.int .i64 k, .int .i64 rd', .int .i64 r1', .int .i64 r2', .int .u32 rv] 25 (0, 0)) := by
    have h0 := S.ob
    have hl := heap_lt h0
    rw [← e]
    have h1 : W.heap[g] = .cells #[.int .i64 k, .int .i64 rd, .int .i64 r1, .int .i64 r2, .int .u32 rv] 25 (0, 0) := (Array.getElem?_eq_some_iff.1 h0).2
    unfold World.setCell
    simp only [Array.getElem?_modify, h0, if_true, Option.map_some]
    simp
  refine ⟨S.rg.kept (row := some g) ⟨?_, ?_, ?_, ?_, fun b hb hne => hh b (fun e => hne (by rw [e]))⟩ (by simp; omega) (by simp; omega), S.below.setCell (by show w.heap.size ≤ g; omega) _, (hh _ (by omega)).trans S.fb, (hh _ (by omega)).trans S.rb, hob⟩
  all_goals (unfold World.setCell; first | rfl | (split <;> simp))
end
end Dec
end Go.Proofs.Ytpdemjdjgehpgaa
