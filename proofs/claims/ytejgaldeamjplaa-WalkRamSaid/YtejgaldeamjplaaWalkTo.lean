/- Contracts of package walk: To. -/
import Derived.Test.YtejgaldeamjplaaRec
import Derived.Defers
import Derived.Recover
namespace Go.Proofs.Ytejgaldeamjplaa
open Go.RowKit
set_option linter.unusedVariables false
namespace Walk
section
variable {w0 w w' : World} {g r : Nat} {base : Int} {ad : Option Addr} {kap : Nat} {zs : List Int}
theorem fault_c (h : RamAt w0 w g r base ad kap zs) (a : Wk.Ask) (ha : a.Ok) {c pa : Int} {zs' : List Int} (q : Hid (Wk.walked base zs a = ⟨pa, c, false, zs'⟩)) :
    pa = 0 ∧ ∃ p, c = Wk.cause a.access p ∧ Calls Try.prog 20 #[tabv g a] w fun e w' => e = gives a.access p ∧ RamAt w0 w' g r base ad kap zs' ∧ Kp r w w' := by
  have q := q.out
  unfold Wk.walked at q
  split at q
  · rename_i p hp
    cases q
    exact ⟨rfl, p, rfl, to_err h a ha hp⟩
  · rename_i i b hl
    unfold Wk.fin at q
    split at q
    · rename_i hn
      cases q
      exact ⟨rfl, true, rfl, to_no h a ha hl hn⟩
    · rename_i hn
      split at q
      · rename_i hf
        cases q
        exact ⟨rfl, false, rfl, to_far h a ha hl (by simpa using hn) hf⟩
      · cases q
theorem found_c (h : RamAt w0 w g r base ad kap zs) (a : Wk.Ask) (ha : a.Ok) {c pa : Int} {zs' : List Int} (q : Hid (Wk.walked base zs a = ⟨pa, c, true, zs'⟩)) :
    c = 0 ∧ Calls Try.prog 20 #[tabv g a] w fun e w' => e = .returned (.int .u32 pa) ∧ RamAt w0 w' g r base ad kap zs' ∧ Kp r w w' := by
  have q := q.out
  unfold Wk.walked at q
  split at q
  · cases q
  · rename_i i b hl
    unfold Wk.fin at q
    split at q
    · cases q
    · rename_i hn
      split at q
      · cases q
      · rename_i hf
        cases q
        exact ⟨rfl, to_ok h a ha hl (by simpa using hn) (by omega)⟩
theorem four_below (w : World) (o1 o2 o3 o4 : Obj) : Below w.heap.size w ((((w.alloc o1).alloc o2).alloc o3).alloc o4) := below_al (below_al (below_al (below_al (Below.refl _ w) o1) o2) o3) o4
theorem three_set {w0 w : World} (h : Below w0.heap.size w0 w) {b : Nat} (hb : w0.heap.size ≤ b) (x y z : Value) : Below w0.heap.size w0 (((w.setCell ⟨b, 0, none⟩ x).setCell ⟨b + 1, 0, none⟩ y).setCell ⟨b + 1 + 1, 0, none⟩ z) :=
  ((h.setCell hb x).setCell (by show w0.heap.size ≤ b + 1; omega) y).setCell (by show w0.heap.size ≤ b + 1 + 1; omega) z
theorem three_other {w : World} {b k : Nat} (h : k < b) (x y z : Value) : (((w.setCell ⟨b, 0, none⟩ x).setCell ⟨b + 1, 0, none⟩ y).setCell ⟨b + 1 + 1, 0, none⟩ z).heap[k]? = w.heap[k]? := by
  rw [Below.heap_setCell _ ⟨b + 1 + 1, 0, none⟩ _ k (by show k ≠ b + 1 + 1; omega), Below.heap_setCell _ ⟨b + 1, 0, none⟩ _ k (by show k ≠ b + 1; omega), Below.heap_setCell _ ⟨b, 0, none⟩ _ k (by show k ≠ b; omega)]
theorem Kp.three {r : Nat} {w w' : World} (h : Kp r w w') {b : Nat} (hb : w.heap.size ≤ b) (x y z : Value) : Kp r w (((w'.setCell ⟨b, 0, none⟩ x).setCell ⟨b + 1, 0, none⟩ y).setCell ⟨b + 1 + 1, 0, none⟩ z) :=
  ⟨by simpa [World.setCell] using h.size, fun k hk hn => (three_other (by omega) x y z).trans (h.block k hk hn)⟩
theorem RamAt.same (h : RamAt w0 w g r base ad kap zs) (hB : Below w0.heap.size w0 w') (hg : w'.heap[g]? = w.heap[g]?) (hr : ad ≠ none → w'.heap[r]? = w.heap[r]?) : RamAt w0 w' g r base ad kap zs := by
  refine ⟨hB, h.lg, hg.trans h.head, ?_, h.b0, h.b1, h.z0, h.z1⟩
  rcases h.rows with e | ⟨e, l, n, cur, hc, hk⟩
  · exact .inl e
  · exact .inr ⟨e, l, n, cur, (hr (by rw [e]; simp)).trans hc, hk⟩
set_option maxHeartbeats 400000 in
set_option maxRecDepth 100000 in
theorem walk_to_plain (h : RamAt w0 w g r base ad kap zs) (a : Wk.Ask) (hp : a.priv = 3 ∨ (a.priv == 3) = false ∧ (a.satp / 2147483648 == 0) = true) (hs : 0 ≤ a.satp) :
    Calls Try.prog 12 #[.iface 30 (.pointer (some ⟨g, 0, none⟩)), askv a] w fun e w' => e = .returned (.tuple #[.int .u32 a.va, .int .u32 0, .bool true]) ∧ RamAt w0 w' g r base ad kap zs ∧ Kp r w w' := by
  obtain ⟨va, satp, status, access, priv⟩ := a
  simp only at hp hs
  have hmf : ∀ (fn : Fn) (first cap : Array Value) (w : World), (Instr.makeFunc fn first cap).run Try.prog w = .ok (.func fn first cap) w := fun _ _ _ _ => rfl
  rcases hp with rfl | ⟨hp, hq⟩
  all_goals
    go_enter_defers Try.func12, Try.ntmps12
    go_wp2_with fail
    refine ⟨.tuple #[.int .u32 va, .int .u32 0, .bool true], ?_, rfl, h.then (four_below _ _ _ _ _), Kp.of_below (four_below _ _ _ _ _)⟩
    simp [results, Try.results12, go_sem]
theorem alloc4_heap (w : World) (o1 o2 o3 o4 : Obj) : ((((w.alloc o1).alloc o2).alloc o3).alloc o4).heap[w.heap.size + 1]? = some o2 ∧ ((((w.alloc o1).alloc o2).alloc o3).alloc o4).heap[w.heap.size + 1 + 1]? = some o3 ∧ ((((w.alloc o1).alloc o2).alloc o3).alloc o4).heap[w.heap.size + 1 + 1 + 1]? = some o4 := by
  have s1 : (w.alloc o1).heap.size = w.heap.size + 1 := by simp
  have s2 : ((w.alloc o1).alloc o2).heap.size = w.heap.size + 1 + 1 := by simp
  have s3 : (((w.alloc o1).alloc o2).alloc o3).heap.size = w.heap.size + 1 + 1 + 1 := by simp
  refine ⟨?_, ?_, ?_⟩
  · have := heap_alloc_new (w.alloc o1) o2
    rw [s1] at this
    exact (Below.heap_alloc _ o4 _ (by omega)).trans ((Below.heap_alloc _ o3 _ (by omega)).trans this)
  · have := heap_alloc_new ((w.alloc o1).alloc o2) o3
    rw [s2] at this
    exact (Below.heap_alloc _ o4 _ (by omega)).trans this
  · have := heap_alloc_new (((w.alloc o1).alloc o2).alloc o3) o4
    rw [s3] at this
    exact this
theorem size4 (w : World) (o1 o2 o3 o4 : Obj) : ((((w.alloc o1).alloc o2).alloc o3).alloc o4).heap.size = w.heap.size + 4 := by simp
theorem cells1 {w : World} {b : Nat} {c : Value} {t : TypeId} (h : w.heap[b]? = some (.cells #[c] t (0, 0))) : w.cell? ⟨b, 0, none⟩ = some c ∧ ∀ i, w.frozen? ⟨b, i, none⟩ = false := by
  simp only [World.cell?, World.frozen?, h]
  simp
theorem idle_b (b b1 b2 : Nat) (e1 : b1 = b + 1) (e2 : b2 = b + 1 + 1) (w : World) :
    CallsD Try.prog 19 #[.pointer (some ⟨b, 0, none⟩), .pointer (some ⟨b1, 0, none⟩), .pointer (some ⟨b2, 0, none⟩)] .returning w fun e u' w' => e = .returned (.tuple #[]) ∧ u' = .returning ∧ w' = w := by
  subst e1 e2; exact catch_idle b w
set_option maxHeartbeats 1000000 in
set_option maxRecDepth 100000 in
theorem walk_to_found (h : RamAt w0 w g r base ad kap zs) (hr : r < w.heap.size) (a : Wk.Ask) (ha : a.Ok) (hp : (a.priv == 3) = false) (hs : ((a.satp / 2147483648) == 0) = false) {c pa : Int} {zs' : List Int} (q : Hid (Wk.walked base zs a = ⟨pa, c, true, zs'⟩)) :
    Calls Try.prog 12 #[.iface 30 (.pointer (some ⟨g, 0, none⟩)), askv a] w fun e w' => e = .returned (.tuple #[.int .u32 pa, .int .u32 c, .bool true]) ∧ RamAt w0 w' g r base ad kap zs' ∧ Kp r w w' := by
  have hmf : ∀ (fn : Fn) (first cap : Array Value) (w : World), (Instr.makeFunc fn first cap).run Try.prog w = .ok (.func fn first cap) w := fun _ _ _ _ => rfl
  have s0 := ha.satp0
  have hg := h.lt
  have hw := h.below.size
  have hT : ∀ o1 o2 o3 o4, Calls Try.prog 20 #[tabv g a] ((((w.alloc o1).alloc o2).alloc o3).alloc o4) fun e w' => e = .returned (.int .u32 pa) ∧ RamAt w0 w' g r base ad kap zs' ∧ Kp r ((((w.alloc o1).alloc o2).alloc o3).alloc o4) w' := fun o1 o2 o3 o4 => (found_c (h.then (four_below w o1 o2 o3 o4)) a ha q).2
  have hc := (found_c h a ha q).1
  subst hc
  clear q h
  go_enter_defers Try.func12, Try.ntmps12
  go_wp2_with (go_at_call 20; have HH := alloc4_heap w (.cells #[.int .u32 a.va, .int .u32 a.satp, .int .u32 a.status, .int .i64 a.access, .int .i64 a.priv] 34) (.cells #[.int .u32 0] 22) (.cells #[.int .u32 0] 22) (.cells #[.bool false] 4); have s4 := size4 w (.cells #[.int .u32 a.va, .int .u32 a.satp, .int .u32 a.status, .int .i64 a.access, .int .i64 a.priv] 34) (.cells #[.int .u32 0] 22) (.cells #[.int .u32 0] 22) (.cells #[.bool false] 4); refine (hT _ _ _ _).mono ?_; rintro e w1 ⟨rfl, R, kp⟩; clear hT; have d1 := (kp.block _ (by rw [s4]; omega) (by omega)).trans HH.1; have d2 := (kp.block _ (by rw [s4]; omega) (by omega)).trans HH.2.1; have d3 := (kp.block _ (by rw [s4]; omega) (by omega)).trans HH.2.2; have KP := Lib.hid ((Kp.of_below (r := r) (four_below _ _ _ _ _)).trans kp); clear HH s4 kp; obtain ⟨k1, f1⟩ := cells1 d1; obtain ⟨k2, f2⟩ := cells1 d2; obtain ⟨k3, f3⟩ := cells1 d3)
  refine leaves_cons (f := 19) (args := #[.pointer (some ⟨w.heap.size + 1, 0, none⟩), .pointer (some ⟨w.heap.size + 1 + 1, 0, none⟩), .pointer (some ⟨w.heap.size + 1 + 1 + 1, 0, none⟩)]) (by simp) (by simp [go_sem]) ?_
  refine (catch_idle (w.heap.size + 1) _).mono ?_
  rintro e u' w'' ⟨rfl, rfl, rfl⟩
  refine ⟨.tuple #[.int .u32 pa, .int .u32 0, .bool true], ?_, rfl, RamAt.same R (three_set R.below (by omega) _ _ _) (three_other (by omega) _ _ _) fun _ => three_other (by omega) _ _ _, KP.out.three (by omega) _ _ _⟩
  simp [results, Try.results12, go_sem, k1, k2, k3]
set_option maxHeartbeats 1000000 in
set_option maxRecDepth 100000 in
theorem walk_to_fault (h : RamAt w0 w g r base ad kap zs) (hr : r < w.heap.size) (a : Wk.Ask) (ha : a.Ok) (hp : (a.priv == 3) = false) (hs : ((a.satp / 2147483648) == 0) = false) {c pa : Int} {zs' : List Int} (q : Hid (Wk.walked base zs a = ⟨pa, c, false, zs'⟩)) :
    Calls Try.prog 12 #[.iface 30 (.pointer (some ⟨g, 0, none⟩)), askv a] w fun e w' => e = .returned (.tuple #[.int .u32 pa, .int .u32 c, .bool false]) ∧ RamAt w0 w' g r base ad kap zs' ∧ Kp r w w' := by
  have hmf : ∀ (fn : Fn) (first cap : Array Value) (w : World), (Instr.makeFunc fn first cap).run Try.prog w = .ok (.func fn first cap) w := fun _ _ _ _ => rfl
  have s0 := ha.satp0
  have hg := h.lt
  have hw := h.below.size
  have hpa := (fault_c h a ha q).1
  obtain ⟨p, hcp, _⟩ := (fault_c h a ha q).2
  subst hpa
  have hT : ∀ o1 o2 o3 o4, Calls Try.prog 20 #[tabv g a] ((((w.alloc o1).alloc o2).alloc o3).alloc o4) fun e w' => e = .panicked [{ v := .iface 51 (.int .u32 c), recovered := false }] ∧ RamAt w0 w' g r base ad kap zs' ∧ Kp r ((((w.alloc o1).alloc o2).alloc o3).alloc o4) w' := fun o1 o2 o3 o4 => by
    obtain ⟨p', hc', hh⟩ := (fault_c (h.then (four_below w o1 o2 o3 o4)) a ha q).2
    rw [hc']
    exact hh
  clear q h hcp
  go_enter_defers Try.func12, Try.ntmps12
  go_wp2_with (go_at_call 20; have HH := alloc4_heap w (.cells #[.int .u32 a.va, .int .u32 a.satp, .int .u32 a.status, .int .i64 a.access, .int .i64 a.priv] 34) (.cells #[.int .u32 0] 22) (.cells #[.int .u32 0] 22) (.cells #[.bool false] 4); have s4 := size4 w (.cells #[.int .u32 a.va, .int .u32 a.satp, .int .u32 a.status, .int .i64 a.access, .int .i64 a.priv] 34) (.cells #[.int .u32 0] 22) (.cells #[.int .u32 0] 22) (.cells #[.bool false] 4); refine (hT _ _ _ _).mono ?_; rintro e w1 ⟨rfl, R, kp⟩; clear hT; have d1 := (kp.block _ (by rw [s4]; omega) (by omega)).trans HH.1; have d2 := (kp.block _ (by rw [s4]; omega) (by omega)).trans HH.2.1; have d3 := (kp.block _ (by rw [s4]; omega) (by omega)).trans HH.2.2; have KP := Lib.hid ((Kp.of_below (r := r) (four_below _ _ _ _ _)).trans kp); clear HH s4 kp; obtain ⟨k1, f1⟩ := cells1 d1; obtain ⟨k2, f2⟩ := cells1 d2; obtain ⟨k3, f3⟩ := cells1 d3)
  refine leaves_cons (f := 19) (args := #[.pointer (some ⟨w.heap.size + 1, 0, none⟩), .pointer (some ⟨w.heap.size + 1 + 1, 0, none⟩), .pointer (some ⟨w.heap.size + 1 + 1 + 1, 0, none⟩)]) (by simp) (by simp [go_sem]) ?_
  refine (catch_panicking (w.heap.size + 1) c [] _ k1 k2 k3 (f1 0) (f2 0) (f3 0)).mono ?_
  rintro e u' w'' ⟨rfl, rfl, rfl⟩
  refine ⟨.tuple #[.int .u32 0, .int .u32 c, .bool false], ?_, rfl, RamAt.same R (three_set R.below (by omega) _ _ _) (three_other (by omega) _ _ _) fun _ => three_other (by omega) _ _ _, KP.out.three (by omega) _ _ _⟩
  simp [results, Try.results12, go_sem, k1, k2, k3]
theorem walk_to (h : RamAt w0 w g r base ad kap zs) (hr : r < w.heap.size) (a : Wk.Ask) (ha : a.Ok) {c pa : Int} {b : Bool} {zs' : List Int} (q : Hid (Wk.to base zs a = ⟨pa, c, b, zs'⟩)) :
    Calls Try.prog 12 #[.iface 30 (.pointer (some ⟨g, 0, none⟩)), askv a] w fun e w' => e = .returned (.tuple #[.int .u32 pa, .int .u32 c, .bool b]) ∧ RamAt w0 w' g r base ad kap zs' ∧ Kp r w w' := by
  have q1 := q.out
  have htop := Bt.top_bit ha.satp0 ha.satp1
  have s0 := ha.satp0
  have s1 := ha.satp1
  unfold Wk.to at q1
  split at q1
  · rename_i hc
    cases q1
    refine walk_to_plain h a ?_ ha.satp0
    by_cases h3 : a.priv = 3
    · exact .inl h3
    · right
      refine ⟨by rw [beq_eq_false_iff_ne]; exact h3, ?_⟩
      rcases hc with hc | hc
      · exact absurd hc h3
      · unfold Wk.bit at hc
        rw [htop, decide_eq_false_iff_not] at hc
        rw [beq_iff_eq]; omega
  · rename_i hc
    have h3 : ¬ a.priv = 3 := fun e => hc (.inl e)
    have hb : ¬ Wk.bit a.satp 31 = false := fun e => hc (.inr e)
    unfold Wk.bit at hb
    rw [htop, decide_eq_false_iff_not] at hb
    have e1 : (a.priv == 3) = false := by rw [beq_eq_false_iff_ne]; exact h3
    have e2 : ((a.satp / 2147483648) == 0) = false := by rw [beq_eq_false_iff_ne]; omega
    cases b
    · exact walk_to_fault h hr a ha e1 e2 q1
    · exact walk_to_found h hr a ha e1 e2 q1
end
end Walk
end Go.Proofs.Ytejgaldeamjplaa
