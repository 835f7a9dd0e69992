/- Contracts of the reference of package walk: none, leaf. -/
import Derived.Test.YtejgaldeamjplaaRefus
import Derived.Laws.AppendOwnNone
namespace Go.Proofs.Ytejgaldeamjplaa
open Go.RowKit
set_option linter.unusedVariables false
abbrev ansv (pa c : Int) (b : Bool) (base : Int) (ad : Option Addr) (n cap : Nat) : Value := .agg #[.int .u32 pa, .int .u32 c, .bool b, .int .u32 base, .slice ad n cap]
abbrev ramv (base : Int) (ad : Option Addr) (n cap : Nat) : Value := .agg #[.int .u32 base, .slice ad n cap]
theorem retA {fn : Func} {p : Tmp} (h : fn.results = #[.cell p 36]) (tmps : Array Value) (w : World) (g : Nat) (cs : Array Value) (hp : tmps.getD p undef = .pointer (some ⟨g, 0, none⟩)) (hg : w.heap[g]? = some (.cells cs 36 (0, 0))) (hs : cs.size = 5) :
    (results fn tmps).run Try.prog w = .ok (.agg cs) w := results_cell_row h tmps w g _ cs _ _ hp hg (show Try.prog.underlying 36 = some (.struct (Try.prog.fieldsOf 36)) by kernel_rfl) rfl (by rw [show (Try.prog.info? 36).map (·.size) = some 5 by kernel_rfl, hs])
theorem cells5 {w : World} {b : Nat} {c0 c1 c2 c3 c4 : Value} {t : TypeId} (h : w.heap[b]? = some (.cells #[c0, c1, c2, c3, c4] t (0, 0))) : w.cell? ⟨b, 0, none⟩ = some c0 ∧ w.cell? ⟨b, 1, none⟩ = some c1 ∧ w.cell? ⟨b, 2, none⟩ = some c2 ∧ w.cell? ⟨b, 3, none⟩ = some c3 ∧ w.cell? ⟨b, 4, none⟩ = some c4 ∧ ∀ i, w.frozen? ⟨b, i, none⟩ = false := by
  simp only [World.cell?, World.frozen?, h]
  simp
theorem cells2 {w : World} {b : Nat} {c0 c1 : Value} {t : TypeId} (h : w.heap[b]? = some (.cells #[c0, c1] t (0, 0))) : w.cell? ⟨b, 0, none⟩ = some c0 ∧ w.cell? ⟨b, 1, none⟩ = some c1 ∧ ∀ i, w.frozen? ⟨b, i, none⟩ = false := by
  simp only [World.cell?, World.frozen?, h]
  simp
theorem put5 {w : World} {r : Nat} {c0 c1 c2 c3 c4 : Value} {t : TypeId} (h : w.heap[r]? = some (.cells #[c0, c1, c2, c3, c4] t (0, 0))) (x0 x1 x2 x3 x4 : Value) : (((((w.setCell ⟨r, 0, none⟩ x0).setCell ⟨r, 1, none⟩ x1).setCell ⟨r, 2, none⟩ x2).setCell ⟨r, 3, none⟩ x3).setCell ⟨r, 4, none⟩ x4).heap[r]? = some (.cells #[x0, x1, x2, x3, x4] t (0, 0)) := by
  have h0 := heap_set h 0 x0
  rw [show (#[c0, c1, c2, c3, c4] : Array Value).setIfInBounds 0 x0 = #[x0, c1, c2, c3, c4] from rfl] at h0
  have h1 := heap_set h0 1 x1
  rw [show (#[x0, c1, c2, c3, c4] : Array Value).setIfInBounds 1 x1 = #[x0, x1, c2, c3, c4] from rfl] at h1
  have h2 := heap_set h1 2 x2
  rw [show (#[x0, x1, c2, c3, c4] : Array Value).setIfInBounds 2 x2 = #[x0, x1, x2, c3, c4] from rfl] at h2
  have h3 := heap_set h2 3 x3
  rw [show (#[x0, x1, x2, c3, c4] : Array Value).setIfInBounds 3 x3 = #[x0, x1, x2, x3, c4] from rfl] at h3
  have h4 := heap_set h3 4 x4
  rw [show (#[x0, x1, x2, x3, c4] : Array Value).setIfInBounds 4 x4 = #[x0, x1, x2, x3, x4] from rfl] at h4
  exact h4
theorem put5_below {w0 w : World} {r : Nat} (h : Below w0.heap.size w0 w) (hr : w0.heap.size ≤ r) (x0 x1 x2 x3 x4 : Value) : Below w0.heap.size w0 (((((w.setCell ⟨r, 0, none⟩ x0).setCell ⟨r, 1, none⟩ x1).setCell ⟨r, 2, none⟩ x2).setCell ⟨r, 3, none⟩ x3).setCell ⟨r, 4, none⟩ x4) := ((((h.setCell hr x0).setCell hr x1).setCell hr x2).setCell hr x3).setCell hr x4
theorem put5_other {w : World} {r k : Nat} (h : ¬ k = r) (x0 x1 x2 x3 x4 : Value) : (((((w.setCell ⟨r, 0, none⟩ x0).setCell ⟨r, 1, none⟩ x1).setCell ⟨r, 2, none⟩ x2).setCell ⟨r, 3, none⟩ x3).setCell ⟨r, 4, none⟩ x4).heap[k]? = w.heap[k]? := by
  rw [Below.heap_setCell _ ⟨r, 4, none⟩ _ k h, Below.heap_setCell _ ⟨r, 3, none⟩ _ k h, Below.heap_setCell _ ⟨r, 2, none⟩ _ k h, Below.heap_setCell _ ⟨r, 1, none⟩ _ k h, Below.heap_setCell _ ⟨r, 0, none⟩ _ k h]
theorem alloc3_below (w : World) (o1 o2 o3 : Obj) : Below w.heap.size w (((w.alloc o1).alloc o2).alloc o3) := (alloc2_below w o1 o2).alloc (by simp; omega) o3
theorem alloc3_then {w w1 : World} {o1 o2 o3 : Obj} (b : Below (((w.alloc o1).alloc o2).alloc o3).heap.size (((w.alloc o1).alloc o2).alloc o3) w1) : w1.heap[w.heap.size]? = some o1 ∧ w1.heap[w.heap.size + 1]? = some o2 ∧ w1.heap[w.heap.size + 1 + 1]? = some o3 ∧ Below w.heap.size w w1 := by
  have h2 := alloc2_then (Below.then (alloc1_below ((w.alloc o1).alloc o2) o3) b)
  refine ⟨h2.1, h2.2.1, (b.block _ (by simp)).trans ?_, Below.then (alloc3_below w o1 o2 o3) b⟩
  have := heap_alloc_new ((w.alloc o1).alloc o2) o3
  simpa using this
theorem below_drew (w : World) : Below w.heap.size w w.drew := (Below.refl _ w).drew
theorem undrew {w w' : World} (b : Below w.drew.heap.size w.drew w') : Below w.heap.size w w' := Below.then (below_drew w) b
namespace Ref15
set_option maxHeartbeats 1000000 in
set_option maxRecDepth 100000 in
theorem none_c (w : World) (base : Int) (ad : Option Addr) (n cap : Nat) (a : Wk.Ask) (ha : a.access = 0 ∨ a.access = 1 ∨ a.access = 2) (p : Bool) :
    Calls Try.prog 24 #[ramv base ad n cap, .agg #[.int .u32 a.va, .int .u32 a.satp, .int .u32 a.status, .int .i64 a.access, .int .i64 a.priv], .bool p] w fun e w' => e = .returned (ansv 0 (Wk.cause a.access p) false base ad n cap) ∧ Below w.heap.size w w' := by
  have hC := fun W => cause_c a.access p W ha
  clear ha
  go_enter Try.func24, Try.ntmps24
  go_wp2
  go_region_with (go_at_call 36; refine (hC _).mono ?_; rintro e w1 ⟨rfl, b1⟩; clear hC; obtain ⟨e0, e1, e2, B⟩ := alloc3_then (undrew b1); clear b1; obtain ⟨x0, x1, xf⟩ := cells2 e0; obtain ⟨z0, z1, z2, z3, z4, zf⟩ := cells5 e2; have E2 := Lib.hid e2; clear e0 e1 e2)
  all_goals
    go_wp2_with (first | (refine bodyPost_ret (retA rfl _ _ _ _ rfl (put5 E2.out _ _ _ _ _) rfl) rfl ⟨rfl, put5_below B (by omega) _ _ _ _ _⟩))
end Ref15
theorem info32 : (Try.prog.info? 22).map (fun i => (i.zero, i.size, i.bytes)) = some (some (.int .u32 0), 1, 4) := by kernel_rfl
theorem under32 : Try.prog.underlying 23 = some (.slice 22) := by kernel_rfl
/-- Words in a block. -/
def Row (w : World) (a : Nat) (zs : List Int) : Prop := ∃ cur, w.heap[a]? = some (.cells cur 22 (0, 0)) ∧ ∀ i, i < zs.length → cur[i]? = some (.int .u32 (zs.getD i 0))
theorem Row.cell {w : World} {a : Nat} {zs : List Int} (h : Row w a zs) {i : Nat} (hi : i < zs.length) : w.cell? ⟨a, i, none⟩ = some (.int .u32 (zs.getD i 0)) ∧ w.frozen? ⟨a, i, none⟩ = false := by
  obtain ⟨cur, e, hc⟩ := h
  simp only [World.cell?, World.frozen?, e]; exact ⟨hc i hi, by simp⟩
theorem Row.same {w w' : World} {a : Nat} {zs : List Int} (h : Row w a zs) (e : w'.heap[a]? = w.heap[a]?) : Row w' a zs := by
  obtain ⟨cur, e1, hc⟩ := h
  exact ⟨cur, e.trans e1, hc⟩
theorem Row.lt {w : World} {a : Nat} {zs : List Int} (h : Row w a zs) : a < w.heap.size := by
  obtain ⟨cur, e, hc⟩ := h
  exact (Array.getElem?_eq_some_iff.1 e).1
theorem Row.put {w : World} {a : Nat} {zs : List Int} (h : Row w a zs) {i : Nat} (hi : i < zs.length) (v : Int) : Row (w.setCell ⟨a, i, none⟩ (.int .u32 v)) a (zs.set i v) := by
  obtain ⟨cur, e, hk⟩ := h
  refine ⟨_, heap_set e i _, fun j hj => ?_⟩
  rw [List.length_set] at hj
  rw [getD_set_int, Array.getElem?_setIfInBounds]
  by_cases c : i = j
  · subst c
    have := (Array.getElem?_eq_some_iff.1 (hk i hi)).1
    rw [if_pos rfl, if_pos this, if_pos ⟨rfl, hi⟩]
  · rw [if_neg c, if_neg (fun h => c h.1)]; exact hk j hj
theorem Row.wd {w : World} {a n cap : Nat} {zs : List Int} (h : Row w a zs) (hn : zs.length = n) (hc : n ≤ cap) (z0 : ∀ i : Nat, 0 ≤ zs.getD i 0 ∧ zs.getD i 0 < 4294967296) : Wd w (some ⟨a, 0, none⟩) n cap zs :=
  ⟨hn, hc, .inr ⟨_, rfl, fun i hi => ⟨a, 0, rfl, by rw [Nat.zero_add]; exact (h.cell (by omega)).1⟩⟩, z0⟩
theorem Row.of_owns {w : World} {B n : Nat} {v : Value} {zs : List Int} (h : w.ownsRow B 22 1 v n (zs.map (Value.int .u32))) (hn : 0 < n) :
    ∃ a kap, v = .slice (some ⟨a, 0, none⟩) n kap ∧ n ≤ kap ∧ B ≤ a ∧ zs.length = n ∧ Row w a zs := by
  obtain ⟨h1, ⟨rfl, rfl⟩ | ⟨g, cap, cur, rfl, hb, hg, hc, hm, hs, ht⟩⟩ := h
  · omega
  · have hl : zs.length = n := by simpa using h1
    refine ⟨g, cap, rfl, hc, hb, hl, cur, hg, fun i hi => ?_⟩
    have e : (cur.toList.take (n * 1))[i]? = (zs.map (Value.int .u32))[i]? := by rw [ht]
    rw [List.getElem?_take, if_pos (by omega), List.getElem?_map, List.getElem?_eq_getElem hi] at e
    rw [← Array.getElem?_toList, e]
    simp [List.getD, hi]
theorem grownBy_refl (w : World) (o : Option Nat) : w.grownBy w o := ⟨rfl, rfl, rfl, Nat.le_refl _, fun _ _ _ => rfl⟩
theorem append_w {w : World} {ops : Array Oper} {rest : List Oper} {o : Oper} {a : Act} {Q : Exit → Act → World → Prop} (hgd : Region.wanted o (yielded ops a.tmps) = true) (s x : Operand)
    (ho : o.op = .call { callee := .builtin .append, args := #[s, x], argTypes := #[23, 23] })
    (base : Nat) (v : Value) (n : Nat) (xs : List Int) (hs : a.eval s = v) (hown : w.ownsRow base 22 1 v n (xs.map (Value.int .u32)))
    {ad : Option Addr} {m c : Nat} {zs : List Int} (hx : a.eval x = .slice ad m c) (hl : Wd w ad m c zs) (hbig : n + m ≤ 100000) (hbase : base ≤ w.heap.size)
    (h : ∀ v' w', w'.ownsRow base 22 1 v' (n + m) ((xs ++ zs).map (Value.int .u32)) → w.grownBy w' v.ownBlock → (v' = .slice none 0 0 ↔ v = .slice none 0 0 ∧ m = 0) → wpList Try.prog ops Q rest (a.put o.dst v') w') : wpList Try.prog ops Q (o :: rest) a w := by
  obtain ⟨i0, hi, hz0, hz1, hz2⟩ := info_parts info32
  obtain ⟨hl1, hl2, hl3, _⟩ := hl
  refine wpList_step fun K hK => ?_
  rw [if_pos hgd]
  rcases hl3 with ⟨rfl, rfl, rfl⟩ | ⟨ad, rfl, hc⟩
  · have hz : zs = [] := List.length_eq_zero_iff.1 hl1
    subst hz
    have hrun := run_append_owned_none (P := Try.prog) (w := w) base 23 o.type 22 i0 1 under32 hi v n _ hown
    unfold Oper.wp
    simp only [execOp, ho, resolve, invoke, builtin, Sem.run_bind, Sem.run_pure, Result.andThen_ok, List.map_toArray, List.map_cons, List.map_nil, hs, hx, hrun]
    exact hK _ _ (h v w (by simpa using hown) (grownBy_refl _ _) (by simp))
  · refine wp_append_own w s x _ ho base 22 i0 (.int .u32 0) 1 4 under32 hi hz0 hz1 hz2 rfl (by decide) v n _ hs hown ad m c (zs.map (Value.int .u32)) hx (by simp [hl1]) ?_ ?_ (by unfold maxLen; omega) (by omega) hbase ?_
    · intro j u hj
      have hjn : j < zs.length := by
        have := (List.getElem?_eq_some_iff.1 hj).1
        simpa using this
      obtain ⟨b, off, rfl, _⟩ := hc j (by omega)
      obtain ⟨b', off', e', hv⟩ := hc j (by omega)
      cases e'
      rw [Addr.add_lit, hv]
      have e : (zs.map (Value.int .u32))[j]? = some (Value.int .u32 (zs.getD j 0)) := by simp [List.getD, hjn]
      rw [e] at hj
      exact hj
    · intro u hu; obtain ⟨x, _, rfl⟩ := List.mem_map.1 hu; rfl
    · intro v' w' h1 h2 h3
      exact hK _ _ (h v' w' (by simpa using h1) h2 h3)
end Go.Proofs.Ytejgaldeamjplaa
