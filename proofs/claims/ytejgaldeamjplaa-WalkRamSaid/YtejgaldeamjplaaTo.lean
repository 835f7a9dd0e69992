/- Contracts of package walk: the address. -/
import Derived.Test.YtejgaldeamjplaaLeaf2
namespace Go.Proofs.Ytejgaldeamjplaa
open Go.RowKit
set_option linter.unusedVariables false
theorem hdr {w : World} {p : Addr} {v : Value} (n : Nat) (h : w.cell? p = some v) : (w.drewN n).cell? p = some v := h
namespace Walk
section
variable {w0 w w' : World} {g r : Nat} {base : Int} {ad : Option Addr} {kap : Nat} {zs : List Int}
/-- But block r nothing that was there has turned. -/
structure Kp (r : Nat) (w w' : World) : Prop where
  size : w.heap.size ≤ w'.heap.size
  block : ∀ k, k < w.heap.size → ¬ k = r → w'.heap[k]? = w.heap[k]?
theorem Kp.of_below {r : Nat} {w w' : World} (b : Below w.heap.size w w') : Kp r w w' := ⟨b.size, fun k hk _ => b.block k hk⟩
theorem Kp.trans {r : Nat} {a b c : World} (h : Kp r a b) (k : Kp r b c) : Kp r a c := ⟨Nat.le_trans h.size k.size, fun i hi hn => (k.block i (Nat.lt_of_lt_of_le hi h.size) hn).trans (h.block i hi hn)⟩
theorem Kp.drewN {r : Nat} {a b : World} (h : Kp r a b) (n : Nat) : Kp r a (b.drewN n) := ⟨h.size, h.block⟩
theorem put_k (h : RamAt w0 w g r base ad kap zs) {x v : Int} (hx : 0 ≤ x) (hx' : x < 4294967296) (hv : 0 ≤ v) (hv' : v < 4294967296) {i : Nat} (q : Hid (Wk.place base zs.length x = some i)) :
    Calls Try.prog 17 #[.pointer (some ⟨g, 0, none⟩), .int .u32 x, .int .u32 v] w fun e w' => e = .returned (.bool true) ∧ RamAt w0 w' g r base ad kap (zs.set i v) ∧ Kp r w w' := by
  obtain ⟨_, c2, f2, _⟩ := h.at_ (Wk.place_lt q.out).1
  go_enter Try.func17, Try.ntmps17
  go_wp2_with (go_at_call 26; refine (place_some h hx hx' q).mono ?_; rintro e w' ⟨rfl, rfl⟩)
  go_ret
  exact ⟨rfl, h.put (Wk.place_lt q.out).1 hv hv', by simp [World.setCell], fun k _ hk => Below.heap_setCell _ _ _ _ hk⟩
theorem set_same (zs : List Int) {i : Nat} (hi : i < zs.length) : zs.set i (zs.getD i 0) = zs := by
  have : zs.getD i 0 = zs[i] := by simp [List.getD, hi]
  rw [this]; exact List.set_getElem_self hi
theorem leaf_err (h : RamAt w0 w g r base ad kap zs) (a : Wk.Ask) (ha : a.Ok) {p : Bool} (q : Hid (Wk.leaf base zs a.satp a.va = .error p)) :
    Calls Try.prog 27 #[tabv g a] w fun e w' => e = gives a.access p ∧ Below w.heap.size w w' := by
  have q := q.out
  unfold Wk.leaf at q
  split at q
  · rename_i p' hp
    cases q
    exact leaf_e1 h a ha hp
  · rename_i i hi
    split at q
    · cases q
    · rename_i hl
      have hl : Wk.isLeaf (zs.getD i 0) = false := by simpa using hl
      split at q
      · rename_i p' hp
        cases q
        exact leaf_e0 h a ha hi hl hp
      · rename_i j hj
        split at q
        · cases q
        · rename_i hl0
          cases q
          exact leaf_end h a ha hi hl hj (by simpa using hl0)
theorem leaf_ok (h : RamAt w0 w g r base ad kap zs) (a : Wk.Ask) (ha : a.Ok) {i : Nat} {b : Bool} (q : Hid (Wk.leaf base zs a.satp a.va = .ok (i, b))) :
    Calls Try.prog 27 #[tabv g a] w fun e w' => e = .returned (.agg #[.int .u32 (base + 4 * i), .int .u32 (zs.getD i 0), .bool b]) ∧ Below w.heap.size w w' := by
  have q := q.out
  unfold Wk.leaf at q
  split at q
  · cases q
  · rename_i i' hi
    split at q
    · rename_i hl
      cases q
      exact leaf_1 h a ha hi hl
    · rename_i hl
      have hl : Wk.isLeaf (zs.getD i' 0) = false := by simpa using hl
      split at q
      · cases q
      · rename_i j hj
        split at q
        · rename_i hl0
          cases q
          exact leaf_0 h a ha hi hl hj hl0
        · cases q
theorem leaf_place {a : Wk.Ask} {i : Nat} {b : Bool} (q : Hid (Wk.leaf base zs a.satp a.va = .ok (i, b))) : ∃ x, Wk.place base zs.length x = some i := by
  have q := q.out
  unfold Wk.leaf at q
  split at q
  · cases q
  · rename_i i' hi
    split at q
    · cases q
      exact ⟨_, (Wk.entry_err hi).2.2.2⟩
    · split at q
      · cases q
      · rename_i j hj
        split at q
        · cases q
          exact ⟨_, (Wk.entry_err hj).2.2.2⟩
        · cases q
set_option maxHeartbeats 1000000 in
set_option maxRecDepth 100000 in
theorem to_err (h : RamAt w0 w g r base ad kap zs) (a : Wk.Ask) (ha : a.Ok) {p : Bool} (q : Hid (Wk.leaf base zs a.satp a.va = .error p)) :
    Calls Try.prog 20 #[tabv g a] w fun e w' => e = gives a.access p ∧ RamAt w0 w' g r base ad kap zs ∧ Kp r w w' := by
  have hLf : ∀ o1, Calls Try.prog 27 #[tabv g a] (w.alloc o1) fun e w' => e = gives a.access p ∧ Below (w.alloc o1).heap.size (w.alloc o1) w' := fun o1 => leaf_err (h.then (alloc1_below w o1)) a ha q
  go_enter Try.func20, Try.ntmps20
  go_wp2_with (go_at_call 27; refine (hLf _).mono ?_; rintro e w1 ⟨rfl, b1⟩; clear hLf; obtain ⟨_, B⟩ := alloc1_then b1)
  exact ⟨rfl, rfl, h.then B, Kp.of_below B⟩
set_option maxHeartbeats 1000000 in
set_option maxRecDepth 100000 in
theorem to_no (h : RamAt w0 w g r base ad kap zs) (a : Wk.Ask) (ha : a.Ok) {i : Nat} {b : Bool} (q : Hid (Wk.leaf base zs a.satp a.va = .ok (i, b))) (hl : Wk.lets (zs.getD i 0) b a = false) :
    Calls Try.prog 20 #[tabv g a] w fun e w' => e = gives a.access true ∧ RamAt w0 w' g r base ad kap zs ∧ Kp r w w' := by
  have hi := (Wk.leaf_lt q.out).1
  obtain ⟨pp, hpp⟩ := leaf_place q
  have hp : Hid (Wk.place base zs.length (base + 4 * i) = some i) := by have := (Wk.place_lt hpp).2.1; rw [← this]; exact hpp
  have p1 := (Wk.place_lt hp.out).2.2.1
  have p0 : 0 ≤ base + 4 * (i : Int) := by have := h.b0; omega
  obtain ⟨z0, z1⟩ := h.z0 i
  obtain ⟨r2, r3⟩ := field_small (zs.getD i 0) 10 22 (by decide)
  change 0 ≤ Wk.frame (zs.getD i 0) at r2
  change Wk.frame (zs.getD i 0) < 4194304 at r3
  have hrt : r < w.heap.size := by
    obtain ⟨_, hc, _⟩ := h.at_ hi
    exact World.block_lt_of_cell? w _ hc
  have HS := Lib.hid (set_same zs hi)
  have hLf0 := fun o1 => leaf_ok (h.then (alloc1_below w o1)) a ha q
  have hLt0 := fun W => lets_u z0 z1 (base + 4 * i) b a ha W
  have hMk0 : ∀ W, Calls Try.prog 30 #[.agg #[.int .u32 (base + 4 * i), .int .u32 (zs.getD i 0), .bool b], .int .i64 a.access] W fun e w' => e = .returned (.int .u32 (Wk.marked (zs.getD i 0) a.access)) ∧ Below W.heap.size W w' := fun W => (marked_c (zs.getD i 0) (base + 4 * i) a.access b W z0 z1).mono fun e w' ⟨he, hw⟩ => ⟨he, hw ▸ alloc1_below _ _⟩
  have hFr0 : ∀ W, Calls Try.prog 31 #[.agg #[.int .u32 (base + 4 * i), .int .u32 (zs.getD i 0), .bool b]] W fun e w' => e = .returned (.int .u32 (Wk.frame (zs.getD i 0))) ∧ Below W.heap.size W w' := fun W => (frame_c (zs.getD i 0) (base + 4 * i) b W z0 z1).mono fun e w' ⟨he, hw⟩ => ⟨he, hw ▸ alloc1_below _ _⟩
  have hmr : 0 ≤ Wk.marked (zs.getD i 0) a.access ∧ Wk.marked (zs.getD i 0) a.access < 4294967296 := by unfold Wk.marked; split <;> exact Bt.put_rng _ _ _ _
  obtain ⟨m0, m1⟩ := hmr
  rw [hl] at hLt0
  obtain ⟨x, HX⟩ : ∃ x, Hid (zs.getD i 0 = x) := ⟨_, rfl⟩
  rw [HX.out] at hLf0 hLt0
  have hLf := hLf0
  have hLt := fun W => hLt0 W
  clear hLf0 hLt0 hMk0 hFr0 HS hl q hpp r2 r3 m0 m1
  go_enter Try.func20, Try.ntmps20
  go_wp2_with (first | (go_at_call 27; refine (hLf _).mono ?_; rintro e w1 ⟨rfl, b1⟩; clear hLf; obtain ⟨et, B⟩ := alloc1_then b1; clear b1; have ltt := (Array.getElem?_eq_some_iff.1 et).1; have lt01 := ltt; have Et := Lib.hid et; obtain ⟨x0, x1, x2, x3, x4, x5, _⟩ := cells6 et; have X0 := fun o => Lib.cell?_alloc_some o x0; have X1 := fun o => Lib.cell?_alloc_some o x1; have X2 := fun o => Lib.cell?_alloc_some o x2; have X3 := fun o => Lib.cell?_alloc_some o x3; have X4 := fun o => Lib.cell?_alloc_some o x4; have X5 := fun o => Lib.cell?_alloc_some o x5; clear et) | (go_at_call 28; refine (hLt _).mono ?_; rintro e w2 ⟨rfl, b2⟩; clear hLt X0 X1 X2 X3 X4 X5 x0 x1 x2 x3 x4 x5; obtain ⟨ee, b3⟩ := alloc1_then b2; clear b2; have et := (b3.block _ ltt).trans Et.out; clear ltt Et; have ltt := (Array.getElem?_eq_some_iff.1 et).1; have lte := (Array.getElem?_eq_some_iff.1 ee).1; replace B := Below.then B b3; clear b3; obtain ⟨x0, x1, x2, x3, x4, x5, _⟩ := cells6 et; obtain ⟨y0, y1, y2, _⟩ := cells3 ee; have Et := Lib.hid et; have Ee := Lib.hid ee; clear et ee) | (go_at_call 29; refine (give_c g a _ _ ha.acc).mono ?_; rintro e w9 ⟨rfl, b9⟩))
  exact ⟨rfl, rfl, (h.then B).then b9, Kp.of_below (Below.then B b9)⟩
set_option maxHeartbeats 1000000 in
set_option maxRecDepth 100000 in
theorem to_far (h : RamAt w0 w g r base ad kap zs) (a : Wk.Ask) (ha : a.Ok) {i : Nat} {b : Bool} (q : Hid (Wk.leaf base zs a.satp a.va = .ok (i, b))) (hl : Wk.lets (zs.getD i 0) b a = true) (hfar : 1048576 ≤ Wk.frameOf (zs.getD i 0) b a.va) :
    Calls Try.prog 20 #[tabv g a] w fun e w' => e = gives a.access false ∧ RamAt w0 w' g r base ad kap (zs.set i (Wk.marked (zs.getD i 0) a.access)) ∧ Kp r w w' := by
  have hi := (Wk.leaf_lt q.out).1
  obtain ⟨pp, hpp⟩ := leaf_place q
  have hp : Hid (Wk.place base zs.length (base + 4 * i) = some i) := by have := (Wk.place_lt hpp).2.1; rw [← this]; exact hpp
  have p1 := (Wk.place_lt hp.out).2.2.1
  have p0 : 0 ≤ base + 4 * (i : Int) := by have := h.b0; omega
  obtain ⟨z0, z1⟩ := h.z0 i
  obtain ⟨r2, r3⟩ := field_small (zs.getD i 0) 10 22 (by decide)
  change 0 ≤ Wk.frame (zs.getD i 0) at r2
  change Wk.frame (zs.getD i 0) < 4194304 at r3
  have hrt : r < w.heap.size := by
    obtain ⟨_, hc, _⟩ := h.at_ hi
    exact World.block_lt_of_cell? w _ hc
  have HS := Lib.hid (set_same zs hi)
  have hLf0 := fun o1 => leaf_ok (h.then (alloc1_below w o1)) a ha q
  have hLt0 := fun W => lets_u z0 z1 (base + 4 * i) b a ha W
  have hMk0 : ∀ W, Calls Try.prog 30 #[.agg #[.int .u32 (base + 4 * i), .int .u32 (zs.getD i 0), .bool b], .int .i64 a.access] W fun e w' => e = .returned (.int .u32 (Wk.marked (zs.getD i 0) a.access)) ∧ Below W.heap.size W w' := fun W => (marked_c (zs.getD i 0) (base + 4 * i) a.access b W z0 z1).mono fun e w' ⟨he, hw⟩ => ⟨he, hw ▸ alloc1_below _ _⟩
  have hFr0 : ∀ W, Calls Try.prog 31 #[.agg #[.int .u32 (base + 4 * i), .int .u32 (zs.getD i 0), .bool b]] W fun e w' => e = .returned (.int .u32 (Wk.frame (zs.getD i 0))) ∧ Below W.heap.size W w' := fun W => (frame_c (zs.getD i 0) (base + 4 * i) b W z0 z1).mono fun e w' ⟨he, hw⟩ => ⟨he, hw ▸ alloc1_below _ _⟩
  have hmr : 0 ≤ Wk.marked (zs.getD i 0) a.access ∧ Wk.marked (zs.getD i 0) a.access < 4294967296 := by unfold Wk.marked; split <;> exact Bt.put_rng _ _ _ _
  obtain ⟨m0, m1⟩ := hmr
  rw [hl] at hLt0
  obtain ⟨m, HM⟩ : ∃ m, Hid (Wk.marked (zs.getD i 0) a.access = m) := ⟨_, rfl⟩
  rw [HM.out] at hMk0 m0 m1 ⊢
  obtain ⟨fr, HF⟩ : ∃ fr, Hid (Wk.frame (zs.getD i 0) = fr) := ⟨_, rfl⟩
  have hfo : Hid (Wk.frameOf (zs.getD i 0) b a.va = (if b then Bt.put fr 0 10 (Bt.field a.va 12 10) else fr)) := by show _ = _; unfold Wk.frameOf; rw [HF.out]
  rw [hfo.out] at hfar
  rw [HF.out] at hFr0 r2 r3
  obtain ⟨x, HX⟩ : ∃ x, Hid (zs.getD i 0 = x) := ⟨_, rfl⟩
  rw [HX.out] at hLf0 hLt0 hMk0 hFr0 HS z0 z1
  have r0 := r2
  have r1 : fr < 4294967296 := by omega
  obtain ⟨v0, v1⟩ := Bt.field_rng a.va 12 10
  obtain ⟨ff0, ff1⟩ := Bt.put_rng fr 0 10 (Bt.field a.va 12 10)
  obtain ⟨fv, hfv⟩ : ∃ fv, Hid (Bt.field a.va 12 10 = fv) := ⟨_, rfl⟩
  rw [hfv.out] at v0 v1 ff0 ff1 hfar
  obtain ⟨ff, hff⟩ : ∃ ff, Hid (Bt.put fr 0 10 fv = ff) := ⟨_, rfl⟩
  rw [hff.out] at ff0 ff1 hfar
  have va0 := ha.va0
  have va1 := ha.va1
  have hLf := hLf0
  have hLt := fun W => hLt0 W
  have hMk := hMk0
  have hFr := hFr0
  clear hLf0 hLt0 hMk0 hFr0 hfo hpp q hl
  cases b with
  | true =>
    simp only [if_true] at hfar
    by_cases hmx : m = x
    · subst hmx
      rw [HS.out]
      go_enter Try.func20, Try.ntmps20
      go_wp2_with (first | (go_at_call 27; refine (hLf _).mono ?_; rintro e w1 ⟨rfl, b1⟩; clear hLf; obtain ⟨et, B⟩ := alloc1_then b1; clear b1; have ltt := (Array.getElem?_eq_some_iff.1 et).1; have lt01 := ltt; have Et := Lib.hid et; obtain ⟨x0, x1, x2, x3, x4, x5, _⟩ := cells6 et; have X0 := fun o => Lib.cell?_alloc_some o x0; have X1 := fun o => Lib.cell?_alloc_some o x1; have X2 := fun o => Lib.cell?_alloc_some o x2; have X3 := fun o => Lib.cell?_alloc_some o x3; have X4 := fun o => Lib.cell?_alloc_some o x4; have X5 := fun o => Lib.cell?_alloc_some o x5; clear et) | (go_at_call 28; refine (hLt _).mono ?_; rintro e w2 ⟨rfl, b2⟩; clear hLt X0 X1 X2 X3 X4 X5 x0 x1 x2 x3 x4 x5; obtain ⟨ee, b3⟩ := alloc1_then b2; clear b2; have et := (b3.block _ ltt).trans Et.out; clear ltt Et; have ltt := (Array.getElem?_eq_some_iff.1 et).1; have lte := (Array.getElem?_eq_some_iff.1 ee).1; replace B := Below.then B b3; clear b3; obtain ⟨x0, x1, x2, x3, x4, x5, _⟩ := cells6 et; obtain ⟨y0, y1, y2, _⟩ := cells3 ee; have Et := Lib.hid et; have Ee := Lib.hid ee; clear et ee) | (go_at_call 30; refine (hMk _).mono ?_; rintro e w3 ⟨rfl, b4⟩; clear hMk; replace B := Below.then B b4; have et := (b4.block _ ltt).trans Et.out; have ee := (b4.block _ lte).trans Ee.out; clear ltt lte Et Ee x0 x1 x2 x3 x4 x5 y0 y1 y2; have ltt := (Array.getElem?_eq_some_iff.1 et).1; have lte := (Array.getElem?_eq_some_iff.1 ee).1; obtain ⟨x0, x1, x2, x3, x4, x5, _⟩ := cells6 et; obtain ⟨y0, y1, y2, _⟩ := cells3 ee; have Et := Lib.hid et; have Ee := Lib.hid ee; clear et ee; clear b4) | (go_at_call 31; have R := h.then B; refine (hFr _).mono ?_; rintro e w5 ⟨rfl, b6⟩; clear hFr; replace R := R.then b6; have KP := Lib.hid ((Kp.of_below (r := r) B).trans (Kp.of_below b6)); have et := (b6.block _ ltt).trans Et.out; have ee := (b6.block _ lte).trans Ee.out; clear ltt lte Et Ee x0 x1 x2 x3 x4 x5 y0 y1 y2; have ltt := (Array.getElem?_eq_some_iff.1 et).1; have lte := (Array.getElem?_eq_some_iff.1 ee).1; obtain ⟨x0, x1, x2, x3, x4, x5, _⟩ := cells6 et; obtain ⟨y0, y1, y2, _⟩ := cells3 ee; have Et := Lib.hid et; have Ee := Lib.hid ee; clear et ee; clear b6) | (go_at_call 33; refine (Bits.field_c _ _ _ _ ha.va0 ha.va1).mono ?_; rintro e w' ⟨rfl, rfl⟩; rw [hfv.out]) | (go_at_call 32; refine (Bits.put_c _ _ _ _ _ r0 r1 v0 v1).mono ?_; rw [hff.out]; rintro e w' ⟨rfl, nn, rfl⟩; replace R := R.drewN nn; replace KP := Lib.hid (KP.out.drewN nn); have X0 := hdr nn x0; have X1 := hdr nn x1; have X2 := hdr nn x2; have X3 := hdr nn x3; have X4 := hdr nn x4; have X5 := hdr nn x5; clear x0 x1 x2 x3 x4 x5) | (go_at_call 29; refine (give_c g a _ _ ha.acc).mono ?_; rintro e w9 ⟨rfl, b9⟩))
      exact ⟨rfl, rfl, R.then b9, KP.out.trans (Kp.of_below b9)⟩
    · have hmx2 : (m != x) = true := by rw [bne_iff_ne]; exact hmx
      have hmx3 : (m == x) = false := by rw [beq_eq_false_iff_ne]; exact hmx
      have hmw := method_put
      clear hmx
      go_enter Try.func20, Try.ntmps20
      go_wp2_with (first | (go_at_call 27; refine (hLf _).mono ?_; rintro e w1 ⟨rfl, b1⟩; clear hLf; obtain ⟨et, B⟩ := alloc1_then b1; clear b1; have ltt := (Array.getElem?_eq_some_iff.1 et).1; have lt01 := ltt; have Et := Lib.hid et; obtain ⟨x0, x1, x2, x3, x4, x5, _⟩ := cells6 et; have X0 := fun o => Lib.cell?_alloc_some o x0; have X1 := fun o => Lib.cell?_alloc_some o x1; have X2 := fun o => Lib.cell?_alloc_some o x2; have X3 := fun o => Lib.cell?_alloc_some o x3; have X4 := fun o => Lib.cell?_alloc_some o x4; have X5 := fun o => Lib.cell?_alloc_some o x5; clear et) | (go_at_call 28; refine (hLt _).mono ?_; rintro e w2 ⟨rfl, b2⟩; clear hLt X0 X1 X2 X3 X4 X5 x0 x1 x2 x3 x4 x5; obtain ⟨ee, b3⟩ := alloc1_then b2; clear b2; have et := (b3.block _ ltt).trans Et.out; clear ltt Et; have ltt := (Array.getElem?_eq_some_iff.1 et).1; have lte := (Array.getElem?_eq_some_iff.1 ee).1; replace B := Below.then B b3; clear b3; obtain ⟨x0, x1, x2, x3, x4, x5, _⟩ := cells6 et; obtain ⟨y0, y1, y2, _⟩ := cells3 ee; have Et := Lib.hid et; have Ee := Lib.hid ee; clear et ee) | (go_at_call 30; refine (hMk _).mono ?_; rintro e w3 ⟨rfl, b4⟩; clear hMk; replace B := Below.then B b4; have et := (b4.block _ ltt).trans Et.out; have ee := (b4.block _ lte).trans Ee.out; clear ltt lte Et Ee x0 x1 x2 x3 x4 x5 y0 y1 y2; have ltt := (Array.getElem?_eq_some_iff.1 et).1; have lte := (Array.getElem?_eq_some_iff.1 ee).1; obtain ⟨x0, x1, x2, x3, x4, x5, _⟩ := cells6 et; obtain ⟨y0, y1, y2, _⟩ := cells3 ee; have Et := Lib.hid et; have Ee := Lib.hid ee; clear et ee; clear b4) | (go_at_call 17; refine (put_k (h.then B) p0 p1 m0 m1 hp).mono ?_; rintro e w4 ⟨rfl, R, kp⟩; have et := (kp.block _ ltt (by omega)).trans Et.out; have ee := (kp.block _ lte (by omega)).trans Ee.out; have KP := Lib.hid ((Kp.of_below (r := r) B).trans kp); clear ltt lte Et Ee x0 x1 x2 x3 x4 x5 y0 y1 y2; have ltt := (Array.getElem?_eq_some_iff.1 et).1; have lte := (Array.getElem?_eq_some_iff.1 ee).1; obtain ⟨x0, x1, x2, x3, x4, x5, _⟩ := cells6 et; obtain ⟨y0, y1, y2, _⟩ := cells3 ee; have Et := Lib.hid et; have Ee := Lib.hid ee; clear et ee kp) | (go_at_call 31; refine (hFr _).mono ?_; rintro e w5 ⟨rfl, b6⟩; clear hFr; replace R := R.then b6; replace KP := Lib.hid (KP.out.trans (Kp.of_below b6)); have et := (b6.block _ ltt).trans Et.out; have ee := (b6.block _ lte).trans Ee.out; clear ltt lte Et Ee x0 x1 x2 x3 x4 x5 y0 y1 y2; have ltt := (Array.getElem?_eq_some_iff.1 et).1; have lte := (Array.getElem?_eq_some_iff.1 ee).1; obtain ⟨x0, x1, x2, x3, x4, x5, _⟩ := cells6 et; obtain ⟨y0, y1, y2, _⟩ := cells3 ee; have Et := Lib.hid et; have Ee := Lib.hid ee; clear et ee; clear b6) | (go_at_call 33; refine (Bits.field_c _ _ _ _ ha.va0 ha.va1).mono ?_; rintro e w' ⟨rfl, rfl⟩; rw [hfv.out]) | (go_at_call 32; refine (Bits.put_c _ _ _ _ _ r0 r1 v0 v1).mono ?_; rw [hff.out]; rintro e w' ⟨rfl, nn, rfl⟩; replace R := R.drewN nn; replace KP := Lib.hid (KP.out.drewN nn); have X0 := hdr nn x0; have X1 := hdr nn x1; have X2 := hdr nn x2; have X3 := hdr nn x3; have X4 := hdr nn x4; have X5 := hdr nn x5; clear x0 x1 x2 x3 x4 x5) | (go_at_call 29; refine (give_c g a _ _ ha.acc).mono ?_; rintro e w9 ⟨rfl, b9⟩))
      exact ⟨rfl, rfl, R.then b9, KP.out.trans (Kp.of_below b9)⟩
  | false =>
    simp only [Bool.false_eq_true, if_false] at hfar
    by_cases hmx : m = x
    · subst hmx
      rw [HS.out]
      go_enter Try.func20, Try.ntmps20
      go_wp2_with (first | (go_at_call 27; refine (hLf _).mono ?_; rintro e w1 ⟨rfl, b1⟩; clear hLf; obtain ⟨et, B⟩ := alloc1_then b1; clear b1; have ltt := (Array.getElem?_eq_some_iff.1 et).1; have lt01 := ltt; have Et := Lib.hid et; obtain ⟨x0, x1, x2, x3, x4, x5, _⟩ := cells6 et; have X0 := fun o => Lib.cell?_alloc_some o x0; have X1 := fun o => Lib.cell?_alloc_some o x1; have X2 := fun o => Lib.cell?_alloc_some o x2; have X3 := fun o => Lib.cell?_alloc_some o x3; have X4 := fun o => Lib.cell?_alloc_some o x4; have X5 := fun o => Lib.cell?_alloc_some o x5; clear et) | (go_at_call 28; refine (hLt _).mono ?_; rintro e w2 ⟨rfl, b2⟩; clear hLt X0 X1 X2 X3 X4 X5 x0 x1 x2 x3 x4 x5; obtain ⟨ee, b3⟩ := alloc1_then b2; clear b2; have et := (b3.block _ ltt).trans Et.out; clear ltt Et; have ltt := (Array.getElem?_eq_some_iff.1 et).1; have lte := (Array.getElem?_eq_some_iff.1 ee).1; replace B := Below.then B b3; clear b3; obtain ⟨x0, x1, x2, x3, x4, x5, _⟩ := cells6 et; obtain ⟨y0, y1, y2, _⟩ := cells3 ee; have Et := Lib.hid et; have Ee := Lib.hid ee; clear et ee) | (go_at_call 30; refine (hMk _).mono ?_; rintro e w3 ⟨rfl, b4⟩; clear hMk; replace B := Below.then B b4; have et := (b4.block _ ltt).trans Et.out; have ee := (b4.block _ lte).trans Ee.out; clear ltt lte Et Ee x0 x1 x2 x3 x4 x5 y0 y1 y2; have ltt := (Array.getElem?_eq_some_iff.1 et).1; have lte := (Array.getElem?_eq_some_iff.1 ee).1; obtain ⟨x0, x1, x2, x3, x4, x5, _⟩ := cells6 et; obtain ⟨y0, y1, y2, _⟩ := cells3 ee; have Et := Lib.hid et; have Ee := Lib.hid ee; clear et ee; clear b4) | (go_at_call 31; have R := h.then B; refine (hFr _).mono ?_; rintro e w5 ⟨rfl, b6⟩; clear hFr; replace R := R.then b6; have KP := Lib.hid ((Kp.of_below (r := r) B).trans (Kp.of_below b6)); have et := (b6.block _ ltt).trans Et.out; have ee := (b6.block _ lte).trans Ee.out; clear ltt lte Et Ee x0 x1 x2 x3 x4 x5 y0 y1 y2; have ltt := (Array.getElem?_eq_some_iff.1 et).1; have lte := (Array.getElem?_eq_some_iff.1 ee).1; obtain ⟨x0, x1, x2, x3, x4, x5, _⟩ := cells6 et; obtain ⟨y0, y1, y2, _⟩ := cells3 ee; have Et := Lib.hid et; have Ee := Lib.hid ee; clear et ee; clear b6) | (go_at_call 33; refine (Bits.field_c _ _ _ _ ha.va0 ha.va1).mono ?_; rintro e w' ⟨rfl, rfl⟩; rw [hfv.out]) | (go_at_call 32; refine (Bits.put_c _ _ _ _ _ r0 r1 v0 v1).mono ?_; rw [hff.out]; rintro e w' ⟨rfl, nn, rfl⟩; replace R := R.drewN nn; replace KP := Lib.hid (KP.out.drewN nn); have X0 := hdr nn x0; have X1 := hdr nn x1; have X2 := hdr nn x2; have X3 := hdr nn x3; have X4 := hdr nn x4; have X5 := hdr nn x5; clear x0 x1 x2 x3 x4 x5) | (go_at_call 29; refine (give_c g a _ _ ha.acc).mono ?_; rintro e w9 ⟨rfl, b9⟩))
      exact ⟨rfl, rfl, R.then b9, KP.out.trans (Kp.of_below b9)⟩
    · have hmx2 : (m != x) = true := by rw [bne_iff_ne]; exact hmx
      have hmx3 : (m == x) = false := by rw [beq_eq_false_iff_ne]; exact hmx
      have hmw := method_put
      clear hmx
      go_enter Try.func20, Try.ntmps20
      go_wp2_with (first | (go_at_call 27; refine (hLf _).mono ?_; rintro e w1 ⟨rfl, b1⟩; clear hLf; obtain ⟨et, B⟩ := alloc1_then b1; clear b1; have ltt := (Array.getElem?_eq_some_iff.1 et).1; have lt01 := ltt; have Et := Lib.hid et; obtain ⟨x0, x1, x2, x3, x4, x5, _⟩ := cells6 et; have X0 := fun o => Lib.cell?_alloc_some o x0; have X1 := fun o => Lib.cell?_alloc_some o x1; have X2 := fun o => Lib.cell?_alloc_some o x2; have X3 := fun o => Lib.cell?_alloc_some o x3; have X4 := fun o => Lib.cell?_alloc_some o x4; have X5 := fun o => Lib.cell?_alloc_some o x5; clear et) | (go_at_call 28; refine (hLt _).mono ?_; rintro e w2 ⟨rfl, b2⟩; clear hLt X0 X1 X2 X3 X4 X5 x0 x1 x2 x3 x4 x5; obtain ⟨ee, b3⟩ := alloc1_then b2; clear b2; have et := (b3.block _ ltt).trans Et.out; clear ltt Et; have ltt := (Array.getElem?_eq_some_iff.1 et).1; have lte := (Array.getElem?_eq_some_iff.1 ee).1; replace B := Below.then B b3; clear b3; obtain ⟨x0, x1, x2, x3, x4, x5, _⟩ := cells6 et; obtain ⟨y0, y1, y2, _⟩ := cells3 ee; have Et := Lib.hid et; have Ee := Lib.hid ee; clear et ee) | (go_at_call 30; refine (hMk _).mono ?_; rintro e w3 ⟨rfl, b4⟩; clear hMk; replace B := Below.then B b4; have et := (b4.block _ ltt).trans Et.out; have ee := (b4.block _ lte).trans Ee.out; clear ltt lte Et Ee x0 x1 x2 x3 x4 x5 y0 y1 y2; have ltt := (Array.getElem?_eq_some_iff.1 et).1; have lte := (Array.getElem?_eq_some_iff.1 ee).1; obtain ⟨x0, x1, x2, x3, x4, x5, _⟩ := cells6 et; obtain ⟨y0, y1, y2, _⟩ := cells3 ee; have Et := Lib.hid et; have Ee := Lib.hid ee; clear et ee; clear b4) | (go_at_call 17; refine (put_k (h.then B) p0 p1 m0 m1 hp).mono ?_; rintro e w4 ⟨rfl, R, kp⟩; have et := (kp.block _ ltt (by omega)).trans Et.out; have ee := (kp.block _ lte (by omega)).trans Ee.out; have KP := Lib.hid ((Kp.of_below (r := r) B).trans kp); clear ltt lte Et Ee x0 x1 x2 x3 x4 x5 y0 y1 y2; have ltt := (Array.getElem?_eq_some_iff.1 et).1; have lte := (Array.getElem?_eq_some_iff.1 ee).1; obtain ⟨x0, x1, x2, x3, x4, x5, _⟩ := cells6 et; obtain ⟨y0, y1, y2, _⟩ := cells3 ee; have Et := Lib.hid et; have Ee := Lib.hid ee; clear et ee kp) | (go_at_call 31; refine (hFr _).mono ?_; rintro e w5 ⟨rfl, b6⟩; clear hFr; replace R := R.then b6; replace KP := Lib.hid (KP.out.trans (Kp.of_below b6)); have et := (b6.block _ ltt).trans Et.out; have ee := (b6.block _ lte).trans Ee.out; clear ltt lte Et Ee x0 x1 x2 x3 x4 x5 y0 y1 y2; have ltt := (Array.getElem?_eq_some_iff.1 et).1; have lte := (Array.getElem?_eq_some_iff.1 ee).1; obtain ⟨x0, x1, x2, x3, x4, x5, _⟩ := cells6 et; obtain ⟨y0, y1, y2, _⟩ := cells3 ee; have Et := Lib.hid et; have Ee := Lib.hid ee; clear et ee; clear b6) | (go_at_call 33; refine (Bits.field_c _ _ _ _ ha.va0 ha.va1).mono ?_; rintro e w' ⟨rfl, rfl⟩; rw [hfv.out]) | (go_at_call 32; refine (Bits.put_c _ _ _ _ _ r0 r1 v0 v1).mono ?_; rw [hff.out]; rintro e w' ⟨rfl, nn, rfl⟩; replace R := R.drewN nn; replace KP := Lib.hid (KP.out.drewN nn); have X0 := hdr nn x0; have X1 := hdr nn x1; have X2 := hdr nn x2; have X3 := hdr nn x3; have X4 := hdr nn x4; have X5 := hdr nn x5; clear x0 x1 x2 x3 x4 x5) | (go_at_call 29; refine (give_c g a _ _ ha.acc).mono ?_; rintro e w9 ⟨rfl, b9⟩))
      exact ⟨rfl, rfl, R.then b9, KP.out.trans (Kp.of_below b9)⟩
set_option maxHeartbeats 1000000 in
set_option maxRecDepth 100000 in
theorem to_ok (h : RamAt w0 w g r base ad kap zs) (a : Wk.Ask) (ha : a.Ok) {i : Nat} {b : Bool} (q : Hid (Wk.leaf base zs a.satp a.va = .ok (i, b))) (hl : Wk.lets (zs.getD i 0) b a = true) (hfar : Wk.frameOf (zs.getD i 0) b a.va < 1048576) :
    Calls Try.prog 20 #[tabv g a] w fun e w' => e = .returned (.int .u32 (Wk.frameOf (zs.getD i 0) b a.va * 4096 + a.va % 4096)) ∧ RamAt w0 w' g r base ad kap (zs.set i (Wk.marked (zs.getD i 0) a.access)) ∧ Kp r w w' := by
  have hi := (Wk.leaf_lt q.out).1
  obtain ⟨pp, hpp⟩ := leaf_place q
  have hp : Hid (Wk.place base zs.length (base + 4 * i) = some i) := by have := (Wk.place_lt hpp).2.1; rw [← this]; exact hpp
  have p1 := (Wk.place_lt hp.out).2.2.1
  have p0 : 0 ≤ base + 4 * (i : Int) := by have := h.b0; omega
  obtain ⟨z0, z1⟩ := h.z0 i
  obtain ⟨r2, r3⟩ := field_small (zs.getD i 0) 10 22 (by decide)
  change 0 ≤ Wk.frame (zs.getD i 0) at r2
  change Wk.frame (zs.getD i 0) < 4194304 at r3
  have hrt : r < w.heap.size := by
    obtain ⟨_, hc, _⟩ := h.at_ hi
    exact World.block_lt_of_cell? w _ hc
  have HS := Lib.hid (set_same zs hi)
  have hLf0 := fun o1 => leaf_ok (h.then (alloc1_below w o1)) a ha q
  have hLt0 := fun W => lets_u z0 z1 (base + 4 * i) b a ha W
  have hMk0 : ∀ W, Calls Try.prog 30 #[.agg #[.int .u32 (base + 4 * i), .int .u32 (zs.getD i 0), .bool b], .int .i64 a.access] W fun e w' => e = .returned (.int .u32 (Wk.marked (zs.getD i 0) a.access)) ∧ Below W.heap.size W w' := fun W => (marked_c (zs.getD i 0) (base + 4 * i) a.access b W z0 z1).mono fun e w' ⟨he, hw⟩ => ⟨he, hw ▸ alloc1_below _ _⟩
  have hFr0 : ∀ W, Calls Try.prog 31 #[.agg #[.int .u32 (base + 4 * i), .int .u32 (zs.getD i 0), .bool b]] W fun e w' => e = .returned (.int .u32 (Wk.frame (zs.getD i 0))) ∧ Below W.heap.size W w' := fun W => (frame_c (zs.getD i 0) (base + 4 * i) b W z0 z1).mono fun e w' ⟨he, hw⟩ => ⟨he, hw ▸ alloc1_below _ _⟩
  have hmr : 0 ≤ Wk.marked (zs.getD i 0) a.access ∧ Wk.marked (zs.getD i 0) a.access < 4294967296 := by unfold Wk.marked; split <;> exact Bt.put_rng _ _ _ _
  obtain ⟨m0, m1⟩ := hmr
  rw [hl] at hLt0
  obtain ⟨m, HM⟩ : ∃ m, Hid (Wk.marked (zs.getD i 0) a.access = m) := ⟨_, rfl⟩
  rw [HM.out] at hMk0 m0 m1 ⊢
  obtain ⟨fr, HF⟩ : ∃ fr, Hid (Wk.frame (zs.getD i 0) = fr) := ⟨_, rfl⟩
  have hfo : Hid (Wk.frameOf (zs.getD i 0) b a.va = (if b then Bt.put fr 0 10 (Bt.field a.va 12 10) else fr)) := by show _ = _; unfold Wk.frameOf; rw [HF.out]
  rw [hfo.out] at hfar ⊢
  rw [HF.out] at hFr0 r2 r3
  obtain ⟨x, HX⟩ : ∃ x, Hid (zs.getD i 0 = x) := ⟨_, rfl⟩
  rw [HX.out] at hLf0 hLt0 hMk0 hFr0 HS z0 z1
  have r0 := r2
  have r1 : fr < 4294967296 := by omega
  obtain ⟨v0, v1⟩ := Bt.field_rng a.va 12 10
  obtain ⟨ff0, ff1⟩ := Bt.put_rng fr 0 10 (Bt.field a.va 12 10)
  obtain ⟨fv, hfv⟩ : ∃ fv, Hid (Bt.field a.va 12 10 = fv) := ⟨_, rfl⟩
  rw [hfv.out] at v0 v1 ff0 ff1 hfar ⊢
  obtain ⟨ff, hff⟩ : ∃ ff, Hid (Bt.put fr 0 10 fv = ff) := ⟨_, rfl⟩
  rw [hff.out] at ff0 ff1 hfar ⊢
  have va0 := ha.va0
  have va1 := ha.va1
  have hLf := hLf0
  have hLt := fun W => hLt0 W
  have hMk := hMk0
  have hFr := hFr0
  clear hLf0 hLt0 hMk0 hFr0 hfo hpp q hl
  cases b with
  | true =>
    simp only [if_true] at hfar ⊢
    by_cases hmx : m = x
    · subst hmx
      rw [HS.out]
      go_enter Try.func20, Try.ntmps20
      go_wp2_with (first | (go_at_call 27; refine (hLf _).mono ?_; rintro e w1 ⟨rfl, b1⟩; clear hLf; obtain ⟨et, B⟩ := alloc1_then b1; clear b1; have ltt := (Array.getElem?_eq_some_iff.1 et).1; have lt01 := ltt; have Et := Lib.hid et; obtain ⟨x0, x1, x2, x3, x4, x5, _⟩ := cells6 et; have X0 := fun o => Lib.cell?_alloc_some o x0; have X1 := fun o => Lib.cell?_alloc_some o x1; have X2 := fun o => Lib.cell?_alloc_some o x2; have X3 := fun o => Lib.cell?_alloc_some o x3; have X4 := fun o => Lib.cell?_alloc_some o x4; have X5 := fun o => Lib.cell?_alloc_some o x5; clear et) | (go_at_call 28; refine (hLt _).mono ?_; rintro e w2 ⟨rfl, b2⟩; clear hLt X0 X1 X2 X3 X4 X5 x0 x1 x2 x3 x4 x5; obtain ⟨ee, b3⟩ := alloc1_then b2; clear b2; have et := (b3.block _ ltt).trans Et.out; clear ltt Et; have ltt := (Array.getElem?_eq_some_iff.1 et).1; have lte := (Array.getElem?_eq_some_iff.1 ee).1; replace B := Below.then B b3; clear b3; obtain ⟨x0, x1, x2, x3, x4, x5, _⟩ := cells6 et; obtain ⟨y0, y1, y2, _⟩ := cells3 ee; have Et := Lib.hid et; have Ee := Lib.hid ee; clear et ee) | (go_at_call 30; refine (hMk _).mono ?_; rintro e w3 ⟨rfl, b4⟩; clear hMk; replace B := Below.then B b4; have et := (b4.block _ ltt).trans Et.out; have ee := (b4.block _ lte).trans Ee.out; clear ltt lte Et Ee x0 x1 x2 x3 x4 x5 y0 y1 y2; have ltt := (Array.getElem?_eq_some_iff.1 et).1; have lte := (Array.getElem?_eq_some_iff.1 ee).1; obtain ⟨x0, x1, x2, x3, x4, x5, _⟩ := cells6 et; obtain ⟨y0, y1, y2, _⟩ := cells3 ee; have Et := Lib.hid et; have Ee := Lib.hid ee; clear et ee; clear b4) | (go_at_call 31; have R := h.then B; refine (hFr _).mono ?_; rintro e w5 ⟨rfl, b6⟩; clear hFr; replace R := R.then b6; have KP := Lib.hid ((Kp.of_below (r := r) B).trans (Kp.of_below b6)); have et := (b6.block _ ltt).trans Et.out; have ee := (b6.block _ lte).trans Ee.out; clear ltt lte Et Ee x0 x1 x2 x3 x4 x5 y0 y1 y2; have ltt := (Array.getElem?_eq_some_iff.1 et).1; have lte := (Array.getElem?_eq_some_iff.1 ee).1; obtain ⟨x0, x1, x2, x3, x4, x5, _⟩ := cells6 et; obtain ⟨y0, y1, y2, _⟩ := cells3 ee; have Et := Lib.hid et; have Ee := Lib.hid ee; clear et ee; clear b6) | (go_at_call 33; refine (Bits.field_c _ _ _ _ ha.va0 ha.va1).mono ?_; rintro e w' ⟨rfl, rfl⟩; rw [hfv.out]) | (go_at_call 32; refine (Bits.put_c _ _ _ _ _ r0 r1 v0 v1).mono ?_; rw [hff.out]; rintro e w' ⟨rfl, nn, rfl⟩; replace R := R.drewN nn; replace KP := Lib.hid (KP.out.drewN nn); have X0 := hdr nn x0; have X1 := hdr nn x1; have X2 := hdr nn x2; have X3 := hdr nn x3; have X4 := hdr nn x4; have X5 := hdr nn x5; clear x0 x1 x2 x3 x4 x5) | (go_at_call 29; refine (give_c g a _ _ ha.acc).mono ?_; rintro e w9 ⟨rfl, b9⟩))
      go_ret
      exact ⟨rfl, R, KP.out⟩
    · have hmx2 : (m != x) = true := by rw [bne_iff_ne]; exact hmx
      have hmx3 : (m == x) = false := by rw [beq_eq_false_iff_ne]; exact hmx
      have hmw := method_put
      clear hmx
      go_enter Try.func20, Try.ntmps20
      go_wp2_with (first | (go_at_call 27; refine (hLf _).mono ?_; rintro e w1 ⟨rfl, b1⟩; clear hLf; obtain ⟨et, B⟩ := alloc1_then b1; clear b1; have ltt := (Array.getElem?_eq_some_iff.1 et).1; have lt01 := ltt; have Et := Lib.hid et; obtain ⟨x0, x1, x2, x3, x4, x5, _⟩ := cells6 et; have X0 := fun o => Lib.cell?_alloc_some o x0; have X1 := fun o => Lib.cell?_alloc_some o x1; have X2 := fun o => Lib.cell?_alloc_some o x2; have X3 := fun o => Lib.cell?_alloc_some o x3; have X4 := fun o => Lib.cell?_alloc_some o x4; have X5 := fun o => Lib.cell?_alloc_some o x5; clear et) | (go_at_call 28; refine (hLt _).mono ?_; rintro e w2 ⟨rfl, b2⟩; clear hLt X0 X1 X2 X3 X4 X5 x0 x1 x2 x3 x4 x5; obtain ⟨ee, b3⟩ := alloc1_then b2; clear b2; have et := (b3.block _ ltt).trans Et.out; clear ltt Et; have ltt := (Array.getElem?_eq_some_iff.1 et).1; have lte := (Array.getElem?_eq_some_iff.1 ee).1; replace B := Below.then B b3; clear b3; obtain ⟨x0, x1, x2, x3, x4, x5, _⟩ := cells6 et; obtain ⟨y0, y1, y2, _⟩ := cells3 ee; have Et := Lib.hid et; have Ee := Lib.hid ee; clear et ee) | (go_at_call 30; refine (hMk _).mono ?_; rintro e w3 ⟨rfl, b4⟩; clear hMk; replace B := Below.then B b4; have et := (b4.block _ ltt).trans Et.out; have ee := (b4.block _ lte).trans Ee.out; clear ltt lte Et Ee x0 x1 x2 x3 x4 x5 y0 y1 y2; have ltt := (Array.getElem?_eq_some_iff.1 et).1; have lte := (Array.getElem?_eq_some_iff.1 ee).1; obtain ⟨x0, x1, x2, x3, x4, x5, _⟩ := cells6 et; obtain ⟨y0, y1, y2, _⟩ := cells3 ee; have Et := Lib.hid et; have Ee := Lib.hid ee; clear et ee; clear b4) | (go_at_call 17; refine (put_k (h.then B) p0 p1 m0 m1 hp).mono ?_; rintro e w4 ⟨rfl, R, kp⟩; have et := (kp.block _ ltt (by omega)).trans Et.out; have ee := (kp.block _ lte (by omega)).trans Ee.out; have KP := Lib.hid ((Kp.of_below (r := r) B).trans kp); clear ltt lte Et Ee x0 x1 x2 x3 x4 x5 y0 y1 y2; have ltt := (Array.getElem?_eq_some_iff.1 et).1; have lte := (Array.getElem?_eq_some_iff.1 ee).1; obtain ⟨x0, x1, x2, x3, x4, x5, _⟩ := cells6 et; obtain ⟨y0, y1, y2, _⟩ := cells3 ee; have Et := Lib.hid et; have Ee := Lib.hid ee; clear et ee kp) | (go_at_call 31; refine (hFr _).mono ?_; rintro e w5 ⟨rfl, b6⟩; clear hFr; replace R := R.then b6; replace KP := Lib.hid (KP.out.trans (Kp.of_below b6)); have et := (b6.block _ ltt).trans Et.out; have ee := (b6.block _ lte).trans Ee.out; clear ltt lte Et Ee x0 x1 x2 x3 x4 x5 y0 y1 y2; have ltt := (Array.getElem?_eq_some_iff.1 et).1; have lte := (Array.getElem?_eq_some_iff.1 ee).1; obtain ⟨x0, x1, x2, x3, x4, x5, _⟩ := cells6 et; obtain ⟨y0, y1, y2, _⟩ := cells3 ee; have Et := Lib.hid et; have Ee := Lib.hid ee; clear et ee; clear b6) | (go_at_call 33; refine (Bits.field_c _ _ _ _ ha.va0 ha.va1).mono ?_; rintro e w' ⟨rfl, rfl⟩; rw [hfv.out]) | (go_at_call 32; refine (Bits.put_c _ _ _ _ _ r0 r1 v0 v1).mono ?_; rw [hff.out]; rintro e w' ⟨rfl, nn, rfl⟩; replace R := R.drewN nn; replace KP := Lib.hid (KP.out.drewN nn); have X0 := hdr nn x0; have X1 := hdr nn x1; have X2 := hdr nn x2; have X3 := hdr nn x3; have X4 := hdr nn x4; have X5 := hdr nn x5; clear x0 x1 x2 x3 x4 x5) | (go_at_call 29; refine (give_c g a _ _ ha.acc).mono ?_; rintro e w9 ⟨rfl, b9⟩))
      go_ret
      exact ⟨rfl, R, KP.out⟩
  | false =>
    simp only [Bool.false_eq_true, if_false] at hfar ⊢
    by_cases hmx : m = x
    · subst hmx
      rw [HS.out]
      go_enter Try.func20, Try.ntmps20
      go_wp2_with (first | (go_at_call 27; refine (hLf _).mono ?_; rintro e w1 ⟨rfl, b1⟩; clear hLf; obtain ⟨et, B⟩ := alloc1_then b1; clear b1; have ltt := (Array.getElem?_eq_some_iff.1 et).1; have lt01 := ltt; have Et := Lib.hid et; obtain ⟨x0, x1, x2, x3, x4, x5, _⟩ := cells6 et; have X0 := fun o => Lib.cell?_alloc_some o x0; have X1 := fun o => Lib.cell?_alloc_some o x1; have X2 := fun o => Lib.cell?_alloc_some o x2; have X3 := fun o => Lib.cell?_alloc_some o x3; have X4 := fun o => Lib.cell?_alloc_some o x4; have X5 := fun o => Lib.cell?_alloc_some o x5; clear et) | (go_at_call 28; refine (hLt _).mono ?_; rintro e w2 ⟨rfl, b2⟩; clear hLt X0 X1 X2 X3 X4 X5 x0 x1 x2 x3 x4 x5; obtain ⟨ee, b3⟩ := alloc1_then b2; clear b2; have et := (b3.block _ ltt).trans Et.out; clear ltt Et; have ltt := (Array.getElem?_eq_some_iff.1 et).1; have lte := (Array.getElem?_eq_some_iff.1 ee).1; replace B := Below.then B b3; clear b3; obtain ⟨x0, x1, x2, x3, x4, x5, _⟩ := cells6 et; obtain ⟨y0, y1, y2, _⟩ := cells3 ee; have Et := Lib.hid et; have Ee := Lib.hid ee; clear et ee) | (go_at_call 30; refine (hMk _).mono ?_; rintro e w3 ⟨rfl, b4⟩; clear hMk; replace B := Below.then B b4; have et := (b4.block _ ltt).trans Et.out; have ee := (b4.block _ lte).trans Ee.out; clear ltt lte Et Ee x0 x1 x2 x3 x4 x5 y0 y1 y2; have ltt := (Array.getElem?_eq_some_iff.1 et).1; have lte := (Array.getElem?_eq_some_iff.1 ee).1; obtain ⟨x0, x1, x2, x3, x4, x5, _⟩ := cells6 et; obtain ⟨y0, y1, y2, _⟩ := cells3 ee; have Et := Lib.hid et; have Ee := Lib.hid ee; clear et ee; clear b4) | (go_at_call 31; have R := h.then B; refine (hFr _).mono ?_; rintro e w5 ⟨rfl, b6⟩; clear hFr; replace R := R.then b6; have KP := Lib.hid ((Kp.of_below (r := r) B).trans (Kp.of_below b6)); have et := (b6.block _ ltt).trans Et.out; have ee := (b6.block _ lte).trans Ee.out; clear ltt lte Et Ee x0 x1 x2 x3 x4 x5 y0 y1 y2; have ltt := (Array.getElem?_eq_some_iff.1 et).1; have lte := (Array.getElem?_eq_some_iff.1 ee).1; obtain ⟨x0, x1, x2, x3, x4, x5, _⟩ := cells6 et; obtain ⟨y0, y1, y2, _⟩ := cells3 ee; have Et := Lib.hid et; have Ee := Lib.hid ee; clear et ee; clear b6) | (go_at_call 33; refine (Bits.field_c _ _ _ _ ha.va0 ha.va1).mono ?_; rintro e w' ⟨rfl, rfl⟩; rw [hfv.out]) | (go_at_call 32; refine (Bits.put_c _ _ _ _ _ r0 r1 v0 v1).mono ?_; rw [hff.out]; rintro e w' ⟨rfl, nn, rfl⟩; replace R := R.drewN nn; replace KP := Lib.hid (KP.out.drewN nn); have X0 := hdr nn x0; have X1 := hdr nn x1; have X2 := hdr nn x2; have X3 := hdr nn x3; have X4 := hdr nn x4; have X5 := hdr nn x5; clear x0 x1 x2 x3 x4 x5) | (go_at_call 29; refine (give_c g a _ _ ha.acc).mono ?_; rintro e w9 ⟨rfl, b9⟩))
      go_ret
      exact ⟨rfl, R, KP.out⟩
    · have hmx2 : (m != x) = true := by rw [bne_iff_ne]; exact hmx
      have hmx3 : (m == x) = false := by rw [beq_eq_false_iff_ne]; exact hmx
      have hmw := method_put
      clear hmx
      go_enter Try.func20, Try.ntmps20
      go_wp2_with (first | (go_at_call 27; refine (hLf _).mono ?_; rintro e w1 ⟨rfl, b1⟩; clear hLf; obtain ⟨et, B⟩ := alloc1_then b1; clear b1; have ltt := (Array.getElem?_eq_some_iff.1 et).1; have lt01 := ltt; have Et := Lib.hid et; obtain ⟨x0, x1, x2, x3, x4, x5, _⟩ := cells6 et; have X0 := fun o => Lib.cell?_alloc_some o x0; have X1 := fun o => Lib.cell?_alloc_some o x1; have X2 := fun o => Lib.cell?_alloc_some o x2; have X3 := fun o => Lib.cell?_alloc_some o x3; have X4 := fun o => Lib.cell?_alloc_some o x4; have X5 := fun o => Lib.cell?_alloc_some o x5; clear et) | (go_at_call 28; refine (hLt _).mono ?_; rintro e w2 ⟨rfl, b2⟩; clear hLt X0 X1 X2 X3 X4 X5 x0 x1 x2 x3 x4 x5; obtain ⟨ee, b3⟩ := alloc1_then b2; clear b2; have et := (b3.block _ ltt).trans Et.out; clear ltt Et; have ltt := (Array.getElem?_eq_some_iff.1 et).1; have lte := (Array.getElem?_eq_some_iff.1 ee).1; replace B := Below.then B b3; clear b3; obtain ⟨x0, x1, x2, x3, x4, x5, _⟩ := cells6 et; obtain ⟨y0, y1, y2, _⟩ := cells3 ee; have Et := Lib.hid et; have Ee := Lib.hid ee; clear et ee) | (go_at_call 30; refine (hMk _).mono ?_; rintro e w3 ⟨rfl, b4⟩; clear hMk; replace B := Below.then B b4; have et := (b4.block _ ltt).trans Et.out; have ee := (b4.block _ lte).trans Ee.out; clear ltt lte Et Ee x0 x1 x2 x3 x4 x5 y0 y1 y2; have ltt := (Array.getElem?_eq_some_iff.1 et).1; have lte := (Array.getElem?_eq_some_iff.1 ee).1; obtain ⟨x0, x1, x2, x3, x4, x5, _⟩ := cells6 et; obtain ⟨y0, y1, y2, _⟩ := cells3 ee; have Et := Lib.hid et; have Ee := Lib.hid ee; clear et ee; clear b4) | (go_at_call 17; refine (put_k (h.then B) p0 p1 m0 m1 hp).mono ?_; rintro e w4 ⟨rfl, R, kp⟩; have et := (kp.block _ ltt (by omega)).trans Et.out; have ee := (kp.block _ lte (by omega)).trans Ee.out; have KP := Lib.hid ((Kp.of_below (r := r) B).trans kp); clear ltt lte Et Ee x0 x1 x2 x3 x4 x5 y0 y1 y2; have ltt := (Array.getElem?_eq_some_iff.1 et).1; have lte := (Array.getElem?_eq_some_iff.1 ee).1; obtain ⟨x0, x1, x2, x3, x4, x5, _⟩ := cells6 et; obtain ⟨y0, y1, y2, _⟩ := cells3 ee; have Et := Lib.hid et; have Ee := Lib.hid ee; clear et ee kp) | (go_at_call 31; refine (hFr _).mono ?_; rintro e w5 ⟨rfl, b6⟩; clear hFr; replace R := R.then b6; replace KP := Lib.hid (KP.out.trans (Kp.of_below b6)); have et := (b6.block _ ltt).trans Et.out; have ee := (b6.block _ lte).trans Ee.out; clear ltt lte Et Ee x0 x1 x2 x3 x4 x5 y0 y1 y2; have ltt := (Array.getElem?_eq_some_iff.1 et).1; have lte := (Array.getElem?_eq_some_iff.1 ee).1; obtain ⟨x0, x1, x2, x3, x4, x5, _⟩ := cells6 et; obtain ⟨y0, y1, y2, _⟩ := cells3 ee; have Et := Lib.hid et; have Ee := Lib.hid ee; clear et ee; clear b6) | (go_at_call 33; refine (Bits.field_c _ _ _ _ ha.va0 ha.va1).mono ?_; rintro e w' ⟨rfl, rfl⟩; rw [hfv.out]) | (go_at_call 32; refine (Bits.put_c _ _ _ _ _ r0 r1 v0 v1).mono ?_; rw [hff.out]; rintro e w' ⟨rfl, nn, rfl⟩; replace R := R.drewN nn; replace KP := Lib.hid (KP.out.drewN nn); have X0 := hdr nn x0; have X1 := hdr nn x1; have X2 := hdr nn x2; have X3 := hdr nn x3; have X4 := hdr nn x4; have X5 := hdr nn x5; clear x0 x1 x2 x3 x4 x5) | (go_at_call 29; refine (give_c g a _ _ ha.acc).mono ?_; rintro e w9 ⟨rfl, b9⟩))
      go_ret
      exact ⟨rfl, R, KP.out⟩
end
end Walk
end Go.Proofs.Ytejgaldeamjplaa
