/- The driver, and the document's beside it. -/
import Derived.Test.YtfghlfolejpjjaaRG
import Derived.Test.YtfghlfolejpjjaaDB
import Derived.Test.YtfghlfolejpjjaaDC
namespace Go.Proofs.Ytfghlfolejpjjaa
open Go.RowKit
set_option linter.unusedVariables false
set_option linter.unusedSimpArgs false
namespace DrX
open Rfl Rcfi Rnor Rdl
/-- A driver, and the document's in box N, its rows at ra and rb. -/
structure PairD (S : Nat → Prop) (w0 w : World) (N dd gf g bw be ra ka rb kb : Nat) (T : Int) (s : Cf.Fl) : Prop where
  dr : DrvAt S w0 w dd gf g bw be 3 T s
  calm : Cf.Calm s
  box : Dbox w N ra ka rb kb (rf s) T
  ref : RAt w ra ka rb kb s.c
  nN : ¬ Mine S dd N
  n1 : ¬ Mine S dd ra
  n2 : ¬ Mine S dd rb
  lo : w0.heap.size ≤ N
/-- The driver has turned; the document's has not yet. -/
structure HalfD (S : Nat → Prop) (w0 w : World) (N dd gf g bw be ra ka rb kb : Nat) (T T' : Int) (s s' : Cf.Fl) : Prop where
  dr : DrvAt S w0 w dd gf g bw be 3 T' s'
  calm : Cf.Calm s
  ok : s.ok
  box : Dbox w N ra ka rb kb (rf s) T
  ref : RAt w ra ka rb kb s.c
  nN : ¬ Mine S dd N
  n1 : ¬ Mine S dd ra
  n2 : ¬ Mine S dd rb
  lo : w0.heap.size ≤ N
section
variable {S S' : Nat → Prop} {w0 w w' w1 w2 : World} {N dd gf g bw be ra ka rb kb a ka' b kb' : Nat} {T T' : Int} {s s1 s' : Cf.Fl}
theorem PairD.below (h : PairD S w0 w N dd gf g bw be ra ka rb kb T s) (hb : Below w.heap.size w w') : PairD S w0 w' N dd gf g bw be ra ka rb kb T s :=
  ⟨h.dr.then hb, h.calm, h.box.below hb, h.ref.below hb, h.nN, h.n1, h.n2, h.lo⟩
theorem HalfD.below (h : HalfD S w0 w N dd gf g bw be ra ka rb kb T T' s s') (hb : Below w.heap.size w w') : HalfD S w0 w' N dd gf g bw be ra ka rb kb T T' s s' :=
  ⟨h.dr.then hb, h.calm, h.ok, h.box.below hb, h.ref.below hb, h.nN, h.n1, h.n2, h.lo⟩
theorem not_mine {k : Nat} (hS : ∀ k, S' k → Sx S w w' k) (h : ¬ Mine S dd k) (hk : k < w.heap.size) : ¬ Mine S' dd k := by
  rintro (d | d)
  · rcases hS _ d with e | e
    · exact h (.inl e)
    · omega
  · exact h (.inr d)
theorem PairD.turn (h : PairD S w0 w N dd gf g bw be ra ka rb kb T s) (hD : DrvAt S' w0 w' dd gf g bw be 3 T' s') (hS : ∀ k, S' k → Sx S w w' k) (hK : Keep (Mine S dd) w w') : HalfD S' w0 w' N dd gf g bw be ra ka rb kb T T' s s' :=
  ⟨hD, h.calm, h.dr.fl.ok, h.box.of (hK.block _ h.box.lt h.nN), h.ref.keep hK h.n1 h.n2, not_mine hS h.nN h.box.lt, not_mine hS h.n1 h.ref.words.lt, not_mine hS h.n2 h.ref.wear.lt, h.lo⟩
theorem HalfD.turn {s2 : Cf.Fl} {T2 : Int} (h : HalfD S w0 w N dd gf g bw be ra ka rb kb T T' s s') (hD : DrvAt S' w0 w' dd gf g bw be 3 T2 s2) (hS : ∀ k, S' k → Sx S w w' k) (hK : Keep (Mine S dd) w w') : HalfD S' w0 w' N dd gf g bw be ra ka rb kb T T2 s s2 :=
  ⟨hD, h.calm, h.ok, h.box.of (hK.block _ h.box.lt h.nN), h.ref.keep hK h.n1 h.n2, not_mine hS h.nN h.box.lt, not_mine hS h.n1 h.ref.words.lt, not_mine hS h.n2 h.ref.wear.lt, h.lo⟩
theorem mine_lt {k : Nat} (h : DrvAt S w0 w dd gf g bw be 3 T s) (hk : Mine S dd k) : k < w.heap.size := hk.elim (fun e => h.fl.hi k e) (fun e => e ▸ h.lt)
theorem HalfD.new_n {k : Nat} (h : HalfD S w0 w N dd gf g bw be ra ka rb kb T T' s s') (d : k = ra ∨ w.heap.size ≤ k) : ¬ Mine S dd k := by
  rcases d with d | d
  · rw [d]; exact h.n1
  · intro e; have := mine_lt h.dr e; omega
theorem HalfD.new_m {k : Nat} (h : HalfD S w0 w N dd gf g bw be ra ka rb kb T T' s s') (d : k = rb ∨ w.heap.size ≤ k) : ¬ Mine S dd k := by
  rcases d with d | d
  · rw [d]; exact h.n2
  · intro e; have := mine_lt h.dr e; omega
theorem HalfD.other (h : HalfD S w0 w N dd gf g bw be ra ka rb kb T T' s s') (hp : Below w.heap.size w w1) (hk : Keep (fun k => k = N) w1 w2) : DrvAt S w0 w2 dd gf g bw be 3 T' s' := by
  have lN := h.lo
  exact DrvAt.other (h.dr.then hp) hk (fun k hS hk => h.nN (.inl (hk ▸ hS))) (fun e => h.nN (.inr e.symm)) (fun k hk => by omega)
/-- The document's driver is laid into its box. -/
theorem HalfD.laid (h : HalfD S w0 w N dd gf g bw be ra ka rb kb T T' s s') (hc : Cf.Calm s') (hp : RPost w w1 ra rb a ka' b kb' s'.c) (hb : Dbox w2 N a ka' b kb' (rf s') T') (hk : Keep (fun k => k = N) w1 w2) : PairD S w0 w2 N dd gf g bw be a ka' b kb' T' s' :=
  ⟨h.other hp.below hk, hc, hb, rat_away hp.at_ (h.box.below hp.below) (by decide) (by decide) hk, h.nN, h.new_n hp.la, h.new_m hp.lb, h.lo⟩
theorem HalfD.relay (h : HalfD S w0 w N dd gf g bw be ra ka rb kb T T' s s') (hc : Cf.Calm s1) (ok : s1.ok) (hp : RPost w w1 ra rb a ka' b kb' s1.c) (hb : Dbox w2 N a ka' b kb' (rf s1) T) (hk : Keep (fun k => k = N) w1 w2) : HalfD S w0 w2 N dd gf g bw be a ka' b kb' T T' s1 s' :=
  ⟨h.other hp.below hk, hc, ok, hb, rat_away hp.at_ (h.box.below hp.below) (by decide) (by decide) hk, h.nN, h.new_n hp.la, h.new_m hp.lb, h.lo⟩
theorem same_post {kw ke : Nat} {c c' : Nr.C} (R : RAt w ra kw rb ke c) (hc : c' = c) (hb : Below w.heap.size w w1) : RPost w w1 ra rb ra kw rb ke c' := by
  subst hc
  exact RPost.same R hb
/-- The chip below has turned. -/
theorem PairD.chip {c' : Nr.C} (h : PairD S w0 w N dd gf g bw be ra ka rb kb T s) (hO : Own w0 w' g bw be c') (hK : Keep (Nor.Three g bw be) w w') : HalfD S w0 w' N dd gf g bw be ra ka rb kb T T s { s with c := c' } := by
  have F := h.dr.fl.chip hO hK (fun j hj => by have o := h.dr.fl.ok.jobs j hj; exact ⟨o.lo, o.hi, o.vlo, o.vhi⟩)
  have K : Keep (Mine S dd) w w' := hK.mono fun k _ e => .inl (h.dr.fl.three e)
  exact h.turn ⟨F, h.dr.ld, h.dr.nd, (hK.block dd h.dr.lt (fun e => h.dr.nd (h.dr.fl.three e))).trans h.dr.head⟩ (fun k e => .inl e) K
/-- The flash below is new again. -/
theorem HalfD.flash {s2 : Cf.Fl} (h : HalfD S w0 w N dd gf g bw be ra ka rb kb T T' s s') (hF : FlashX (Sx S w w') w0 w' gf g bw be s2) (hK : Keep S w w') : HalfD (Sx S w w') w0 w' N dd gf g bw be ra ka rb kb T T' s s2 :=
  h.turn (h.dr.turn hF hK) (fun k e => e) (hK.mono fun k _ e => .inl e)
theorem chip_cells (h : Dbox w N ra ka rb kb (rf s) T) : w.cell? ⟨N, 0, none⟩ = some (.slice (some ⟨ra, 0, none⟩) s.c.words.length ka) ∧ w.cell? ⟨N, 1, none⟩ = some (.slice (some ⟨rb, 0, none⟩) s.c.wear.length kb) ∧ w.cell? ⟨N, 2, none⟩ = some (.int .i64 s.c.endure) ∧ w.cell? ⟨N, 3, none⟩ = some (.int .i64 s.c.fuse) ∧ w.cell? ⟨N, 4, none⟩ = some (.int .u32 s.c.pick) ∧ w.cell? ⟨N, 5, none⟩ = some (.bool s.c.off) ∧ ∀ i, w.frozen? ⟨N, i, none⟩ = false :=
  ⟨(h.cell 0).trans ((dhead _ _ _ _ _ _ (by decide)).trans rfl), (h.cell 1).trans ((dhead _ _ _ _ _ _ (by decide)).trans rfl), (h.cell 2).trans ((dhead _ _ _ _ _ _ (by decide)).trans rfl), (h.cell 3).trans ((dhead _ _ _ _ _ _ (by decide)).trans rfl), (h.cell 4).trans ((dhead _ _ _ _ _ _ (by decide)).trans rfl), (h.cell 5).trans ((dhead _ _ _ _ _ _ (by decide)).trans rfl), fun i => h.free i⟩
theorem set_chip {bw' kw' be' ke' : Nat} {c' : Nr.C} (h : Dbox w N ra ka rb kb (rf s) T) : Dbox ((((((w.setCell ⟨N, 0, none⟩ (.slice (some ⟨bw', 0, none⟩) c'.words.length kw')).setCell ⟨N, 1, none⟩ (.slice (some ⟨be', 0, none⟩) c'.wear.length ke')).setCell ⟨N, 2, none⟩ (.int .i64 c'.endure)).setCell ⟨N, 3, none⟩ (.int .i64 c'.fuse)).setCell ⟨N, 4, none⟩ (.int .u32 c'.pick)).setCell ⟨N, 5, none⟩ (.bool c'.off)) N bw' kw' be' ke' (rf { s with c := c' }) T := by
  refine (heap_set (heap_set (heap_set (heap_set (heap_set (heap_set h 0 _) 1 _) 2 _) 3 _) 4 _) 5 _).trans ?_
  have : ((((((da ra ka rb kb (rf s) T).setIfInBounds 0 (.slice (some ⟨bw', 0, none⟩) c'.words.length kw')).setIfInBounds 1 (.slice (some ⟨be', 0, none⟩) c'.wear.length ke')).setIfInBounds 2 (.int .i64 c'.endure)).setIfInBounds 3 (.int .i64 c'.fuse)).setIfInBounds 4 (.int .u32 c'.pick)).setIfInBounds 5 (.bool c'.off) = da bw' kw' be' ke' (rf { s with c := c' }) T := by
    unfold da
    simp only [List.setIfInBounds_toArray]
    congr 1
  rw [this]
theorem start_pair {w3 w4 : World} {c0 : Nr.C} {Z : Array Value} {kw ke : Nat} (D : DrvAt S w0 w2 dd gf g bw be 3 0 (Cf.new c0)) (h2 : RAt w3 ra kw rb ke c0) (h3 : w2.heap.size ≤ ra) (h4 : w2.heap.size ≤ rb) (h5 : Below w2.heap.size w2 w3)
    (hb4 : Dbox w4 w3.heap.size ra kw rb ke (fresh c0) 0) (hk4 : Keep (fun k => k = w3.heap.size) (w3.alloc (.cells Z 64)) w4) : PairD S w0 w4 w3.heap.size dd gf g bw be ra kw rb ke 0 (Cf.new c0) := by
  have s5 := h5.size
  have so := D.old
  have ml : ∀ k, w2.heap.size ≤ k → ¬ Mine S dd k := fun k hk e => by have := mine_lt D e; omega
  have b := (Below.refl _ w3).alloc (Nat.le_refl _) (.cells Z 64)
  exact ⟨DrvAt.other ((D.then h5).then b) hk4 (fun k hS hk => ml w3.heap.size (by omega) (.inl (hk ▸ hS))) (fun e => ml w3.heap.size (by omega) (.inr e.symm)) (fun k hk => by omega), ⟨rfl, rfl, rfl⟩, hb4, rat_away (h2.below b) (heap_alloc_new w3 _) (by decide) (by decide) hk4, ml _ (by omega), ml _ h3, ml _ h4, by omega⟩
end
theorem built_d (bw kw be ke : Nat) (c : Nr.C) : Try.prog.built 64 [(0, .agg (fa bw kw be ke (fresh c)))] = some (da bw kw be ke (fresh c) 0) := by kernel_rfl
theorem build_d {ops : Array Oper} {rest : List Oper} {o : Oper} {a : Act} {w : World} {Q : Exit → Act → World → Prop} {bw kw be ke : Nat} {c : Nr.C} (hgd : o.guard = none) (x : Operand) (ho : o.op = .build 64 #[(0, x)]) (hx : a.eval x = .agg (fa bw kw be ke (fresh c)))
    (h : wpList Try.prog ops Q rest (a.put o.dst (.agg (da bw kw be ke (fresh c) 0))) w) : wpList Try.prog ops Q (o :: rest) a w := by
  have e : Try.prog.built 64 ((#[(0, x)] : Array (Nat × Operand)).map fun (i, x) => (i, a.eval x)).toList = some (da bw kw be ke (fresh c) 0) := by
    have : ((#[(0, x)] : Array (Nat × Operand)).map fun (i, x) => (i, a.eval x)).toList = [(0, .agg (fa bw kw be ke (fresh c)))] := by
      simp [hx]
    rw [this]
    exact built_d bw kw be ke c
  refine wpList_build hgd _ _ ho (by rw [e]; rfl) ?_
  rw [e]
  exact h
/-- The first place where something fails, if any. -/
theorem first_bad (g : Nat → Int × Int) : ∀ n : Nat, ∃ (m : Nat) (zs : List Int), m ≤ n ∧ zs.length = m ∧ (∀ i, i < m → g i = (zs.getD i 0, 0)) ∧ (m < n → ¬ (g m).2 = 0)
  | 0 => ⟨0, [], Nat.le_refl _, rfl, fun i hi => absurd hi (Nat.not_lt_zero _), fun h => absurd h (Nat.lt_irrefl _)⟩
  | n + 1 => by
    obtain ⟨m, zs, h1, h2, h3, h4⟩ := first_bad g n
    by_cases hm : m < n
    · exact ⟨m, zs, by omega, h2, h3, fun _ => h4 hm⟩
    · obtain rfl : m = n := by omega
      by_cases he : (g m).2 = 0
      · refine ⟨m + 1, zs ++ [(g m).1], Nat.le_refl _, by simp [h2], fun i hi => ?_, fun h => absurd h (Nat.lt_irrefl _)⟩
        by_cases hi2 : i < m
        · rw [h3 i hi2]
          simp [List.getD, List.getElem?_append_left (by omega : i < zs.length)]
        · obtain rfl : i = m := by omega
          refine Prod.ext ?_ he
          simp [List.getD, h2]
      · exact ⟨m, zs, Nat.le_succ _, h2, h3, fun _ => he⟩
theorem ew_ticks (s : Cf.Fl) (b : Int) : 0 ≤ (Cf.ew s b).2.1 ∧ (Cf.ew s b).2.1 ≤ 20 := by
  unfold Cf.ew
  split
  · split
    · exact ⟨by show (0 : Int) ≤ 0; decide, by show (0 : Int) ≤ 20; decide⟩
    · exact ⟨by show (0 : Int) ≤ 20; decide, by show (20 : Int) ≤ 20; decide⟩
  · exact ⟨by show (0 : Int) ≤ 0; decide, by show (0 : Int) ≤ 20; decide⟩
/-- What reading begins with. -/
theorem read_split {s : Cf.Fl} (hc : Cf.Calm s) (at_ : Int) (n : Nat) : (∃ e, ¬ e = 0 ∧ Cf.wrong s at_ = e ∧ Cf.write s at_ 255 = (e, s)) ∨
    (Cf.write s at_ 255 = (0, { s with mode := 0 }) ∧ ∃ (m : Nat) (zs : List Int) (v f : Int), m ≤ n ∧ zs.length = m ∧ (∀ i : Nat, i < m → Cf.read { s with mode := 0 } (at_ + i) = (zs.getD i 0, 0)) ∧ (m < n → Cf.read { s with mode := 0 } (at_ + m) = (v, f) ∧ ¬ f = 0)) := by
  by_cases hw : Cf.wrong s at_ = 0
  · right
    refine ⟨(Cf.write_cmd hw hc.job hc.wait).trans rfl, ?_⟩
    obtain ⟨m, zs, h1, h2, h3, h4⟩ := first_bad (fun i => Cf.read { s with mode := 0 } (at_ + (i : Nat))) n
    exact ⟨m, zs, _, _, h1, h2, h3, fun h => ⟨rfl, h4 h⟩⟩
  · exact .inl ⟨_, hw, rfl, if_neg hw⟩
/-- The box of an act. -/
def Bx (w : World) (A : Nat) (k t m : Int) (wa : Option Addr) (wl wc : Nat) : Prop := w.heap[A]? = some (.cells #[.int .u8 k, .int .i64 t, .int .i64 m, .slice wa wl wc] 66 (0, 0))
section
variable {w w' : World} {A : Nat} {k t m : Int} {wa : Option Addr} {wl wc : Nat}
theorem Bx.cells (h : Bx w A k t m wa wl wc) : w.cell? ⟨A, 0, none⟩ = some (.int .u8 k) ∧ w.cell? ⟨A, 1, none⟩ = some (.int .i64 t) ∧ w.cell? ⟨A, 2, none⟩ = some (.int .i64 m) ∧ w.cell? ⟨A, 3, none⟩ = some (.slice wa wl wc) := by
  unfold Bx at h
  simp only [World.cell?, h]
  simp
theorem Bx.keep {S : Nat → Prop} (h : Bx w A k t m wa wl wc) (hK : Keep S w w') (n : ¬ S A) : Bx w' A k t m wa wl wc := (hK.block _ (Array.getElem?_eq_some_iff.1 h).1 n).trans h
theorem Bx.below (h : Bx w A k t m wa wl wc) (b : Below w.heap.size w w') : Bx w' A k t m wa wl wc := (b.block _ (Array.getElem?_eq_some_iff.1 h).1).trans h
theorem Bx.lt (h : Bx w A k t m wa wl wc) : A < w.heap.size := (Array.getElem?_eq_some_iff.1 h).1
end
end DrX
end Go.Proofs.Ytfghlfolejpjjaa
