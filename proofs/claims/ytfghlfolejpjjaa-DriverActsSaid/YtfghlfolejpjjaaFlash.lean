/- A flash in memory: its struct, its map of locks, its job; and what becomes of it by each store. -/
import Derived.Test.YtfghlfolejpjjaaCf
import Derived.Test.YtfghlfolejpjjaaDead
import Derived.Maps.OwnSet
import Derived.Maps.OwnOps
namespace Go.Proofs.Ytfghlfolejpjjaa
open Go.RowKit Go.Maps
set_option linter.unusedVariables false
theorem underInt : Try.prog.underlying 3 = some (.int .i64) := by kernel_rfl
theorem underLocks : Try.prog.underlying 92 = some (.map 3 3) := by kernel_rfl
theorem lawInt : Keyed Try.prog 3 := int_keyed underInt
theorem zeroInt (w : World) : (zeroValue 3).run Try.prog w = .ok (.int .i64 0) w := by kernel_rfl

def KeysIn (m : Nat) (D : DataW Unit) : Prop := ∃ es, D = .map es ∧ ∀ p ∈ es, ∃ b : Int, 0 ≤ b ∧ b < m ∧ p.1 = .int .i64 b
theorem KeysIn.empty (m : Nat) : KeysIn m (.map []) := ⟨[], rfl, fun p hp => by cases hp⟩
theorem KeysIn.put {m : Nat} {D : DataW Unit} (h : KeysIn m D) {b : Int} (h0 : 0 ≤ b) (h1 : b < m) (d : DataW Unit) : KeysIn m (D.put (.int .i64 b) d) := by
  obtain ⟨es, rfl, hk⟩ := h
  refine ⟨_, rfl, fun p hp => ?_⟩
  rcases ChangeMaps.mem_insert_iff.1 hp with rfl | hp
  · exact ⟨b, h0, h1, rfl⟩
  · exact hk p (List.mem_filter.1 hp).1
theorem KeysIn.del {m : Nat} {D : DataW Unit} (h : KeysIn m D) (k : Lit) : KeysIn m (D.del k) := by
  obtain ⟨es, rfl, hk⟩ := h
  exact ⟨_, rfl, fun p hp => hk p (List.mem_filter.1 hp).1⟩
/-- A tidy map with keys below m has at most m. -/
theorem size_le_of_keys : ∀ (m : Nat) (D : DataW Unit), Tidy D → KeysIn m D → Maps.size D ≤ m
  | 0, D, hT, ⟨es, e, hk⟩ => by
    subst e
    cases es with
    | nil => simp [Maps.size]
    | cons x r => obtain ⟨b, h1, h2, _⟩ := hk x (List.mem_cons_self ..); omega
  | m + 1, D, hT, ⟨es, e, hk⟩ => by
    have h1 := Maps.size_del hT (k := .int .i64 m)
    have h2 := size_le_of_keys m (D.del (.int .i64 m)) (hT.del _) (by
      subst e
      refine ⟨_, rfl, fun p hp => ?_⟩
      obtain ⟨hp1, hp2⟩ := List.mem_filter.1 hp
      obtain ⟨b, b1, b2, b3⟩ := hk p hp1
      refine ⟨b, b1, ?_, b3⟩
      have : b ≠ m := fun e' => by
        rw [b3, e'] at hp2
        simp [Lit.sameKey] at hp2
      omega)
    split at h1 <;> omega
theorem tighten {w : World} {b n : Nat} {D : DataW Unit} {R : Value → Option (DataW Unit × List MemPlace)} (h : w.ownsMap Try.prog 3 R b n D) (hk : KeysIn 64 D) : w.ownsMap Try.prog 3 R b 64 D := by
  have hT := World.ownsMap.tidy h lawInt
  have hs := size_le_of_keys 64 D hT hk
  obtain ⟨es, clock, hb, F, _, rfl⟩ := h
  have e : Maps.size (.map ((es.toList.map (WideElems.rg Try.prog 3 R)).foldr DataW.insert []) : DataW Unit) = es.size := length_read es
  exact ⟨es, clock, hb, F, by omega, rfl⟩

/-- Which blocks a map has locked. -/
def Locks (w : World) (mb : Nat) (L : Int → Bool) : Prop := ∃ (D : DataW Unit), w.ownsMap Try.prog 3 (plainElem Try.prog 3) mb 64 D ∧ KeysIn 64 D ∧
  ∀ b : Int, D.atKey (.int .i64 b) (.lit (.int .i64 0)) = .lit (.int .i64 (if L b then 1 else 0))
theorem Locks.kept {w w' : World} {mb : Nat} {L : Int → Bool} (h : Locks w mb L) (hb : w'.heap[mb]? = w.heap[mb]?) : Locks w' mb L := by
  obtain ⟨D, ⟨es, clock, h1, h2⟩, h3⟩ := h
  exact ⟨D, ⟨es, clock, hb.trans h1, h2⟩, h3⟩
theorem Locks.lt {w : World} {mb : Nat} {L : Int → Bool} (h : Locks w mb L) : mb < w.heap.size := by
  obtain ⟨D, h1, _⟩ := h
  exact World.ownsMap.lt h1
theorem Locks.made (w : World) : Locks (w.alloc (.map #[] 0)) w.heap.size fun _ => false :=
  ⟨.map [], (World.ownsMap_made _ _ _ _).mono (Nat.zero_le _), KeysIn.empty _, fun b => rfl⟩

/-- The value of the command that came. -/
def waitV (n : Int) : Value := if n = 64 then .func (.func 74) #[] #[] else if n = 32 then .func (.func 75) #[] #[] else if n = 96 then .func (.func 76) #[] #[] else .nilFunc
/-- The closure of a job. -/
def Clo (w : World) (Far : Nat → Prop) (gf gj : Nat) (j : Cf.Jb) (clo : Value) : Prop :=
  (j.isp = true ∧ ∃ bf ba bv, Far bf ∧ Far ba ∧ Far bv ∧ bf ≠ gj ∧ ba ≠ gj ∧ bv ≠ gj ∧ clo = .func (.func 86) #[] #[.pointer (some ⟨bf, 0, none⟩), .pointer (some ⟨ba, 0, none⟩), .pointer (some ⟨bv, 0, none⟩)] ∧
    w.cell? ⟨bf, 0, none⟩ = some (.pointer (some ⟨gf, 0, none⟩)) ∧ w.cell? ⟨ba, 0, none⟩ = some (.int .i64 j.at_) ∧ w.cell? ⟨bv, 0, none⟩ = some (.int .u32 j.v)) ∨
  (j.isp = false ∧ ∃ bf bb, Far bf ∧ Far bb ∧ bf ≠ gj ∧ bb ≠ gj ∧ clo = .func (.func 88) #[] #[.pointer (some ⟨bf, 0, none⟩), .pointer (some ⟨bb, 0, none⟩)] ∧
    w.cell? ⟨bf, 0, none⟩ = some (.pointer (some ⟨gf, 0, none⟩)) ∧ w.cell? ⟨bb, 0, none⟩ = some (.int .i64 j.at_))
/-- A job, or none. -/
def JobAt (w : World) (Far : Nat → Prop) (gf : Nat) (jp : Value) : Option Cf.Jb → Prop
  | none => jp = .pointer none
  | some j => ∃ gj clo, jp = .pointer (some ⟨gj, 0, none⟩) ∧ Far gj ∧ w.heap[gj]? = some (.cells #[.int .i64 j.left, clo] 110 (0, 0)) ∧ Clo w Far gf gj j clo
/-- Blocks of the job's: the flash's, and none of its own five. -/
def FarOf (S : Nat → Prop) (gf g bw be mb : Nat) (k : Nat) : Prop := S k ∧ k ≠ gf ∧ k ≠ g ∧ k ≠ bw ∧ k ≠ be ∧ k ≠ mb
theorem Clo.mono {w w' : World} {F F' : Nat → Prop} {gf gj : Nat} {j : Cf.Jb} {clo : Value} (h : Clo w F gf gj j clo) (hF : ∀ k, F k → F' k) (hw : ∀ k v, F k → k ≠ gj → w.cell? ⟨k, 0, none⟩ = some v → w'.cell? ⟨k, 0, none⟩ = some v) : Clo w' F' gf gj j clo := by
  rcases h with ⟨i, bf, ba, bv, q1, q2, q3, n1, n2, n3, e, c1, c2, c3⟩ | ⟨i, bf, bb, q1, q2, n1, n2, e, c1, c2⟩
  · exact .inl ⟨i, bf, ba, bv, hF _ q1, hF _ q2, hF _ q3, n1, n2, n3, e, hw _ _ q1 n1 c1, hw _ _ q2 n2 c2, hw _ _ q3 n3 c3⟩
  · exact .inr ⟨i, bf, bb, hF _ q1, hF _ q2, n1, n2, e, hw _ _ q1 n1 c1, hw _ _ q2 n2 c2⟩
theorem JobAt.mono {w w' : World} {F F' : Nat → Prop} {gf : Nat} {jp : Value} {o : Option Cf.Jb} (h : JobAt w F gf jp o) (hF : ∀ k, F k → F' k) (hw : ∀ k, F k → w'.heap[k]? = w.heap[k]?) : JobAt w' F' gf jp o := by
  cases o with
  | none => exact h
  | some j =>
    obtain ⟨gj, clo, e, hf, hg, hc⟩ := h
    exact ⟨gj, clo, e, hF _ hf, (hw gj hf).trans hg, hc.mono hF fun k v hk _ h => by unfold World.cell? at h ⊢; rw [hw k hk]; exact h⟩

/-- The same blocks, and those that are new. -/
def Sx (S : Nat → Prop) (w w' : World) (k : Nat) : Prop := S k ∨ (w.heap.size ≤ k ∧ k < w'.heap.size)
theorem Sx_eq {S : Nat → Prop} {w w1 w' : World} (e : w1.heap.size = w.heap.size) : Sx S w1 w' = Sx S w w' := by unfold Sx; rw [e]
/-- The flash at block gf, of the chip at g, bw, be; its blocks are those of S. -/
structure FlashX (S : Nat → Prop) (w0 w : World) (gf g bw be : Nat) (s : Cf.Fl) : Prop where
  own : Own w0 w g bw be s.c
  ok : s.ok
  lo : ∀ k, S k → w0.heap.size ≤ k
  hi : ∀ k, S k → k < w.heap.size
  mem : S gf ∧ S g ∧ S bw ∧ S be
  f1 : gf ≠ g ∧ gf ≠ bw ∧ gf ≠ be
  body : ∃ mb jp, S mb ∧ mb ≠ gf ∧ mb ≠ g ∧ mb ≠ bw ∧ mb ≠ be ∧ w.heap[gf]? = some (.cells #[.pointer (some ⟨g, 0, none⟩), .int .i64 s.mode, waitV s.wait, .int .u32 s.errs, .map (some mb), jp] 95 (0, 0)) ∧
    Locks w mb s.locks ∧ JobAt w (FarOf S gf g bw be mb) gf jp s.job
section
variable {w0 w w' : World} {S S' : Nat → Prop} {gf g bw be : Nat} {s s' : Cf.Fl}
theorem FlashX.lift (h : FlashX S w0 w gf g bw be s) (h1 : ∀ k, S k → S' k) (h2 : ∀ k, S' k → w0.heap.size ≤ k ∧ k < w.heap.size) : FlashX S' w0 w gf g bw be s := by
  obtain ⟨mb, jp, m1, m3, m4, m5, m6, hb, hL, hJ⟩ := h.body
  obtain ⟨a, b, c, d⟩ := h.mem
  exact ⟨h.own, h.ok, fun k hk => (h2 k hk).1, fun k hk => (h2 k hk).2, ⟨h1 _ a, h1 _ b, h1 _ c, h1 _ d⟩, h.f1, mb, jp, h1 _ m1, m3, m4, m5, m6, hb, hL, hJ.mono (fun k hk => ⟨h1 k hk.1, hk.2⟩) (fun _ _ => rfl)⟩
theorem FlashX.up (h : FlashX S w0 w' gf g bw be s) (hw : w0.heap.size ≤ w.heap.size) : FlashX (Sx S w w') w0 w' gf g bw be s :=
  h.lift (fun k hk => .inl hk) fun k hk => hk.elim (fun e => ⟨h.lo k e, h.hi k e⟩) fun e => ⟨Nat.le_trans hw e.1, e.2⟩
theorem FlashX.old (h : FlashX S w0 w gf g bw be s) : w0.heap.size ≤ w.heap.size := h.own.below.size
/-- Only new blocks have turned. -/
theorem FlashX.then (h : FlashX S w0 w gf g bw be s) (hb : Below w.heap.size w w') : FlashX S w0 w' gf g bw be s := by
  obtain ⟨mb, jp, m1, m3, m4, m5, m6, hg, hL, hJ⟩ := h.body
  obtain ⟨a, b, c, d⟩ := h.mem
  exact ⟨h.own.then hb, h.ok, h.lo, fun k hk => Nat.lt_of_lt_of_le (h.hi k hk) hb.size, h.mem, h.f1, mb, jp, m1, m3, m4, m5, m6, (hb.block gf (h.hi _ a)).trans hg, hL.kept (hb.block mb (h.hi _ m1)), hJ.mono (fun k hk => hk) (fun k hk => hb.block k (h.hi _ hk.1))⟩
theorem FlashX.drewN (h : FlashX S w0 w gf g bw be s) (n : Nat) : FlashX S w0 (w.drewN n) gf g bw be s := h.then (Below.drewN' (Below.refl _ w) n)
/-- A turn of blocks that are not the flash's. -/
theorem FlashX.other {R : Nat → Prop} (h : FlashX S w0 w gf g bw be s) (hK : Keep R w w') (hR : ∀ k, S k → ¬ R k) (hR0 : ∀ k, R k → w0.heap.size ≤ k) : FlashX S w0 w' gf g bw be s := by
  obtain ⟨mb, jp, m1, m3, m4, m5, m6, hg, hL, hJ⟩ := h.body
  obtain ⟨a, b, c, d⟩ := h.mem
  have bl := h.own.below
  exact ⟨⟨h.own.chip.keep hK (hR _ b) (hR _ c) (hR _ d), h.own.lg, h.own.lw, h.own.le, ⟨hK.os.trans bl.os, hK.tape.trans bl.tape, hK.output.trans bl.output, Nat.le_trans bl.size hK.size, fun k hk => (hK.block k (Nat.lt_of_lt_of_le hk bl.size) (fun r => by have := hR0 k r; omega)).trans (bl.block k hk)⟩⟩,
    h.ok, h.lo, fun k hk => Nat.lt_of_lt_of_le (h.hi k hk) hK.size, h.mem, h.f1, mb, jp, m1, m3, m4, m5, m6, (hK.block gf (h.hi _ a) (hR _ a)).trans hg, hL.kept (hK.block mb (h.hi _ m1) (hR _ m1)), hJ.mono (fun k hk => hk) (fun k hk => hK.block k (h.hi _ hk.1) (hR _ hk.1))⟩
/-- The chip has turned. -/
theorem FlashX.chip {c' : Nr.C} (h : FlashX S w0 w gf g bw be s) (hO : Own w0 w' g bw be c') (hK : Keep (Nor.Three g bw be) w w') (hj : ∀ j, s.job = some j → j.ok c') : FlashX S w0 w' gf g bw be { s with c := c' } := by
  obtain ⟨mb, jp, m1, m3, m4, m5, m6, hg, hL, hJ⟩ := h.body
  obtain ⟨a, b, c, d⟩ := h.mem
  have f1 := h.f1
  exact ⟨hO, ⟨h.ok.mlo, h.ok.mhi, h.ok.waits, h.ok.elo, h.ok.ehi, hj⟩, h.lo, fun k hk => Nat.lt_of_lt_of_le (h.hi k hk) hK.size, h.mem, h.f1, mb, jp, m1, m3, m4, m5, m6, (hK.block gf (h.hi _ a) (by unfold Nor.Three; omega)).trans hg, hL.kept (hK.block mb (h.hi _ m1) (by unfold Nor.Three; omega)),
    hJ.mono (fun k hk => hk) (fun k hk => hK.block k (h.hi _ hk.1) (by unfold Nor.Three; have := hk.2; omega))⟩
theorem FlashX.three (h : FlashX S w0 w gf g bw be s) {k : Nat} (hk : Nor.Three g bw be k) : S k := by
  obtain ⟨a, b, c, d⟩ := h.mem
  rcases hk with rfl | rfl | rfl
  · exact b
  · exact c
  · exact d
/-- What the walk reads. -/
theorem FlashX.cells (h : FlashX S w0 w gf g bw be s) : ∃ mb jp, Locks w mb s.locks ∧ JobAt w (FarOf S gf g bw be mb) gf jp s.job ∧ w.cell? ⟨gf, 0, none⟩ = some (.pointer (some ⟨g, 0, none⟩)) ∧ w.cell? ⟨gf, 1, none⟩ = some (.int .i64 s.mode) ∧ w.cell? ⟨gf, 2, none⟩ = some (waitV s.wait) ∧
    w.cell? ⟨gf, 3, none⟩ = some (.int .u32 s.errs) ∧ w.cell? ⟨gf, 4, none⟩ = some (.map (some mb)) ∧ w.cell? ⟨gf, 5, none⟩ = some jp := by
  obtain ⟨mb, jp, m1, m3, m4, m5, m6, hg, hL, hJ⟩ := h.body
  refine ⟨mb, jp, hL, hJ, ?_⟩
  simp only [World.cell?, hg]
  exact ⟨rfl, rfl, rfl, rfl, rfl, rfl⟩
theorem FlashX.free (h : FlashX S w0 w gf g bw be s) (i : Nat) : w.frozen? ⟨gf, i, none⟩ = false := by
  obtain ⟨mb, jp, m1, m3, m4, m5, m6, hg, hL, hJ⟩ := h.body
  simp only [World.frozen?, hg]; simp
/-- A store into the struct. -/
theorem FlashX.set (h : FlashX S w0 w gf g bw be s) (i : Nat) (u : Value) (hok : s'.ok) (e1 : s'.c = s.c) (e2 : s'.locks = s.locks) (e3 : s'.job = s.job)
    (hc : ∀ mb jp, (#[.pointer (some ⟨g, 0, none⟩), .int .i64 s.mode, waitV s.wait, .int .u32 s.errs, .map (some mb), jp] : Array Value).setIfInBounds i u = #[.pointer (some ⟨g, 0, none⟩), .int .i64 s'.mode, waitV s'.wait, .int .u32 s'.errs, .map (some mb), jp]) :
    FlashX S w0 (w.setCell ⟨gf, i, none⟩ u) gf g bw be s' := by
  obtain ⟨mb, jp, m1, m3, m4, m5, m6, hg, hL, hJ⟩ := h.body
  have f1 := h.f1
  have K := (Keep.refl (fun k => k = gf) w).setCell (p := ⟨gf, i, none⟩) (.inl rfl) u
  have hne : ∀ k, k ≠ gf → (w.setCell ⟨gf, i, none⟩ u).heap[k]? = w.heap[k]? := fun k hk => Below.heap_setCell _ _ _ _ hk
  refine ⟨⟨by rw [e1]; exact h.own.chip.keep K (by omega) (by omega) (by omega), h.own.lg, h.own.lw, h.own.le, h.own.below.setCell (p := ⟨gf, i, none⟩) (h.lo _ h.mem.1) u⟩, hok, h.lo, fun k hk => Nat.lt_of_lt_of_le (h.hi k hk) K.size, h.mem, h.f1, mb, jp, m1, m3, m4, m5, m6, ?_, ?_, ?_⟩
  · rw [heap_set hg, hc mb jp]
  · rw [e2]; exact hL.kept (hne mb m3)
  · rw [e3]; exact hJ.mono (fun k hk => hk) (fun k hk => hne k hk.2.1)
/-- Another job, or none. -/
theorem FlashX.setJob {jp' : Value} {o : Option Cf.Jb} (h : FlashX S w0 w gf g bw be s) (hS : ∀ k, S k → S' k) (hS2 : ∀ k, S' k → w0.heap.size ≤ k ∧ k < w.heap.size) (hJ : ∀ F : Nat → Prop, (∀ k, S' k → ¬ S k → F k) → JobAt w F gf jp' o) (hok : ∀ j, o = some j → j.ok s.c) :
    FlashX S' w0 (w.setCell ⟨gf, 5, none⟩ jp') gf g bw be { s with job := o } := by
  obtain ⟨mb, jp, m1, m3, m4, m5, m6, hg, hL, _⟩ := h.body
  obtain ⟨a, b, c, d⟩ := h.mem
  have f1 := h.f1
  have K := (Keep.refl (fun k => k = gf) w).setCell (p := ⟨gf, 5, none⟩) (.inl rfl) jp'
  have hne : ∀ k, k ≠ gf → (w.setCell ⟨gf, 5, none⟩ jp').heap[k]? = w.heap[k]? := fun k hk => Below.heap_setCell _ _ _ _ hk
  have J := hJ (FarOf S' gf g bw be mb) (fun k k1 k2 => ⟨k1, fun e => k2 (e ▸ a), fun e => k2 (e ▸ b), fun e => k2 (e ▸ c), fun e => k2 (e ▸ d), fun e => k2 (e ▸ m1)⟩)
  refine ⟨⟨h.own.chip.keep K (by omega) (by omega) (by omega), h.own.lg, h.own.lw, h.own.le, h.own.below.setCell (p := ⟨gf, 5, none⟩) (h.lo _ a) jp'⟩, ⟨h.ok.mlo, h.ok.mhi, h.ok.waits, h.ok.elo, h.ok.ehi, hok⟩, fun k hk => (hS2 k hk).1, fun k hk => Nat.lt_of_lt_of_le (hS2 k hk).2 K.size, ⟨hS _ a, hS _ b, hS _ c, hS _ d⟩, h.f1, mb, jp', hS _ m1, m3, m4, m5, m6, ?_, ?_, ?_⟩
  · rw [heap_set hg]; rfl
  · exact hL.kept (hne mb m3)
  · exact J.mono (fun k hk => hk) (fun k hk => hne k hk.2.1)
/-- Another map of locks in the same block. -/
theorem FlashX.setLocks {L : Int → Bool} (h : FlashX S w0 w gf g bw be s) {mb : Nat} (hm : w.cell? ⟨gf, 4, none⟩ = some (.map (some mb))) (hg : w.grownBy w' (some mb)) (hL : Locks w' mb L) :
    FlashX S w0 w' gf g bw be { s with locks := L } ∧ Keep S w w' := by
  obtain ⟨mb2, jp, m1, m3, m4, m5, m6, hb, hL2, hJ⟩ := h.body
  have e : mb2 = mb := by
    simp only [World.cell?, hb] at hm
    simpa using hm
  subst e
  obtain ⟨a, b, c, d⟩ := h.mem
  have ne : ∀ k, k < w.heap.size → k ≠ mb2 → w'.heap[k]? = w.heap[k]? := fun k hk hn => hg.block k hk (by simpa using hn)
  have K : Keep (fun k => k = mb2) w w' := ⟨hg.os, hg.tape, hg.output, hg.size, fun k hk hn => ne k hk hn⟩
  have bl := h.own.below
  have lm := h.lo _ m1
  refine ⟨⟨⟨h.own.chip.keep K (by omega) (by omega) (by omega), h.own.lg, h.own.lw, h.own.le, ⟨hg.os.trans bl.os, hg.tape.trans bl.tape, hg.output.trans bl.output, Nat.le_trans bl.size hg.size, fun k hk => (ne k (Nat.lt_of_lt_of_le hk bl.size) (by omega)).trans (bl.block k hk)⟩⟩,
    ⟨h.ok.mlo, h.ok.mhi, h.ok.waits, h.ok.elo, h.ok.ehi, h.ok.jobs⟩, h.lo, fun k hk => Nat.lt_of_lt_of_le (h.hi k hk) hg.size, h.mem, h.f1, mb2, jp, m1, m3, m4, m5, m6, (ne gf (h.hi _ a) (by omega)).trans hb, hL, hJ.mono (fun k hk => hk) (fun k hk => ne k (h.hi _ hk.1) hk.2.2.2.2.2)⟩, K.mono fun k _ e => e ▸ m1⟩
/-- Less time is left. -/
theorem FlashX.setLeft {j : Cf.Jb} (h : FlashX S w0 w gf g bw be s) (hj : s.job = some j) {gj : Nat} (hp : w.cell? ⟨gf, 5, none⟩ = some (.pointer (some ⟨gj, 0, none⟩))) {x : Int} (x0 : 0 ≤ x) (x1 : x ≤ 20) :
    FlashX S w0 (w.setCell ⟨gj, 0, none⟩ (.int .i64 x)) gf g bw be { s with job := some { j with left := x } } ∧ Keep S w (w.setCell ⟨gj, 0, none⟩ (.int .i64 x)) := by
  obtain ⟨mb, jp, m1, m3, m4, m5, m6, hg, hL, hJ⟩ := h.body
  have e : jp = .pointer (some ⟨gj, 0, none⟩) := by
    simp only [World.cell?, hg] at hp
    simpa using hp
  subst e
  rw [hj] at hJ
  obtain ⟨gj2, clo, e2, hf, hgj, hc⟩ := hJ
  simp at e2
  subst e2
  have K := (Keep.refl (fun k => k = gj) w).setCell (p := ⟨gj, 0, none⟩) (.inl rfl) (.int .i64 x)
  have hne : ∀ k, k ≠ gj → (w.setCell ⟨gj, 0, none⟩ (.int .i64 x)).heap[k]? = w.heap[k]? := fun k hk => Below.heap_setCell _ _ _ _ hk
  obtain ⟨q1, q3, q4, q5, q6, q7⟩ := hf
  have o := h.ok.jobs j hj
  refine ⟨⟨⟨h.own.chip.keep K (by omega) (by omega) (by omega), h.own.lg, h.own.lw, h.own.le, h.own.below.setCell (p := ⟨gj, 0, none⟩) (h.lo _ q1) _⟩, ⟨h.ok.mlo, h.ok.mhi, h.ok.waits, h.ok.elo, h.ok.ehi, fun j' hj' => by cases hj'; exact ⟨x0, x1, o.vlo, o.vhi⟩⟩, h.lo, fun k hk => Nat.lt_of_lt_of_le (h.hi k hk) K.size, h.mem, h.f1, mb, _, m1, m3, m4, m5, m6, (hne gf (by omega)).trans hg, hL.kept (hne mb (by omega)), gj, clo, rfl, ⟨q1, q3, q4, q5, q6, q7⟩, ?_, ?_⟩, K.mono fun k _ e => e ▸ q1⟩
  · rw [heap_set hgj]; rfl
  · exact (show Clo w _ gf gj { j with left := x } clo from hc).mono (fun k hk => hk) fun k v hk hn h => by unfold World.cell? at h ⊢; rw [hne k hn]; exact h
end
end Go.Proofs.Ytfghlfolejpjjaa
