/- What the laws of chapter 3 ask, of the plain law alone (2): chains of calls. -/
import Derived.Test.YtfghlfolejpjjaaCfLaws
namespace Go.Proofs.Ytfghlfolejpjjaa.Cf
open Go.RowKit
set_option linter.unusedVariables false
theorem wrong_in {s : Fl} {m : Nat} (hoff : s.c.off = false) (h : m < 64 * s.c.wear.length) : wrong s m = 0 := Nr.wrong_in hoff (by omega)
theorem write_cmd {s : Fl} {at_ v : Int} (hw : wrong s at_ = 0) (hj : s.job = none) (h0 : s.wait = 0) : write s at_ v = (0, command s v) := by rw [write_none hw hj, if_pos h0]
theorem write_wait {s : Fl} {at_ v : Int} (hw : wrong s at_ = 0) (hj : s.job = none) (h0 : ¬ s.wait = 0) : write s at_ v = (0, waited s at_ v) := by rw [write_none hw hj, if_neg h0]
theorem write_job {s : Fl} {at_ v : Int} (hw : wrong s at_ = 0) {j : Jb} (hj : s.job = some j) : write s at_ v = (0, s) := by
  unfold write; rw [if_pos hw]; split
  · rfl
  · rename_i e; rw [hj] at e; cases e
theorem tick_wait {s : Fl} {n : Int} (hw : wrong s 0 = 0) (hn : ¬ n < 0) {j : Jb} (hj : s.job = some j) (hl : n < j.left) : tick s n = (0, { s with job := some { j with left := j.left - n } }) := by
  unfold tick; rw [if_pos hw, if_neg hn]; split
  · rename_i e; rw [hj] at e; cases e
  · rename_i j' e; rw [hj] at e; cases e; rw [if_pos hl]
theorem tick_done {s : Fl} {n : Int} (hw : wrong s 0 = 0) (hn : ¬ n < 0) {j : Jb} (hj : s.job = some j) (hl : ¬ n < j.left) {e : Int} {c' : Nr.C} (hd : does s.c j = (e, c')) (h5 : ¬ e = 5) : tick s n = (e, { s with c := c', job := none }) := by
  unfold tick; rw [if_pos hw, if_neg hn]; split
  · rename_i e; rw [hj] at e; cases e
  · rename_i j' e; rw [hj] at e; cases e; rw [if_neg hl, hd, if_neg h5]
theorem tick_none {s : Fl} {n : Int} (hw : wrong s 0 = 0) (hn : ¬ n < 0) (hj : s.job = none) : tick s n = (0, s) := by
  unfold tick; rw [if_pos hw, if_neg hn]; split
  · rfl
  · rename_i e; rw [hj] at e; cases e
theorem read_job {s : Fl} {at_ : Int} (hw : wrong s at_ = 0) {j : Jb} (hj : s.job = some j) : read s at_ = (status s, 0) := by
  unfold read; rw [if_pos hw]; split
  · rfl
  · rename_i e; rw [hj] at e; cases e
theorem read_none {s : Fl} {at_ : Int} (hw : wrong s at_ = 0) (hj : s.job = none) : read s at_ = (if s.mode = 0 then s.c.words.getD at_.toNat 0 else if s.mode = 2 then ids s at_ else if s.mode = 3 then ask s at_ else status s, 0) := by
  unfold read; rw [if_pos hw]; split
  · rename_i e; rw [hj] at e; cases e
  · rfl
theorem status_none {s : Fl} (hj : s.job = none) : status s = bits .or .u32 s.errs 128 := by unfold status; rw [hj]
theorem status_job {s : Fl} {j : Jb} (hj : s.job = some j) : status s = s.errs := by unfold status; rw [hj]

/-- A chip of two blocks with one word programmed; block b erased so often. -/
def c2 (l : List Int) (e : List Int) : Nr.C := ⟨l, e, 5, 0, 0, false⟩
def r128 : List Int := List.replicate 128 4294967295
theorem r128_get {k : Nat} (hk : k < 128) : r128.getD k 0 = 4294967295 := by unfold r128; rw [Nr.getD_replicate, if_pos hk]
theorem r128_set {k : Nat} (hk : k < 128) (v : Int) : (r128.set k v).getD k 0 = v := Nr.getD_set_self (by simpa [r128] using hk) v
theorem c2_program {k : Nat} (hk : k < 128) {v : Int} (hv : 0 ≤ v) (hv' : v < 4294967296) : Nr.programs (c2 r128 [0, 0]) k v = (0, c2 (r128.set k v) [0, 0]) := by
  have := Nr.programs_calm (c := c2 r128 [0, 0]) (by simp [c2, r128]) (m := k) (by simpa [c2, r128] using hk) rfl rfl v
  rw [show (c2 r128 [0, 0]).words.getD k 0 = 4294967295 from r128_get hk, Nr.and_ones hv hv'] at this
  exact this
def fl (c : Nr.C) (m w e : Int) (L : Int → Bool) (j : Option Jb) : Fl := ⟨c, m, w, e, L, j⟩
def noL : Int → Bool := fun _ => false
theorem fl_wrong {k : Nat} (hk : k < 128) (l : List Int) (a b m w e : Int) (L : Int → Bool) (j : Option Jb) : wrong (fl (c2 l [a, b]) m w e L j) k = 0 := wrong_in rfl hk
theorem jobs_chain {k : Nat} (hk : k < 128) {v : Int} (hv : 0 ≤ v) (hv' : v < 4294967296) :
    ∃ (s0 s1 s3 s4 s6 : Fl) (J E : Int → Fl) (z0 z1 z2 : List Int), (Hid (new (Nr.new 2 5) = s0) ∧ Hid (write s0 k 64 = (0, s1)) ∧ Hid (write s1 k v = (0, J 3)) ∧ Hid (∀ l x, write (J l) k x = (0, J l)) ∧ Hid (∀ l, read (J l) k = (0, 0)) ∧ Hid (∀ l, 1 < l → tick (J l) 1 = (0, J (l - 1))) ∧
      Hid (∀ l, (J l).c.words = z0) ∧ Hid (tick (J 1) 1 = (0, s3)) ∧ Hid (status s3 = 128) ∧ Hid (s3.c.words = z1) ∧ Hid (write s3 k 32 = (0, s4)) ∧ Hid (write s4 k 208 = (0, E 20)) ∧ Hid (tick (E 20) 19 = (0, E 1)) ∧ Hid (status (E 1) = 0) ∧ Hid ((E 1).c.words = z1) ∧
      Hid (tick (E 1) 1 = (0, s6)) ∧ Hid (status s6 = 128) ∧ Hid (s6.c.words = z2) ∧ Hid (Nr.worn s6.c ((k : Int) / 64) = 1)) ∧ z0.length = 128 ∧ z0.getD k 0 = 4294967295 ∧ z1.length = 128 ∧ z1.getD k 0 = v ∧ z2.length = 128 ∧ z2.getD k 0 = 4294967295 := by
  have hk0 : (0 : Nat) < 128 := by decide
  obtain ⟨b, hb⟩ : ∃ b : Nat, b = k / 64 := ⟨_, rfl⟩
  have hbi : (k : Int) / 64 = b := by omega
  have hb2 : b = 0 ∨ b = 1 := by omega
  obtain ⟨z2, hz2⟩ : ∃ z2, z2 = Nr.changed (fun _ => 4294967295) false 0 (b * 64) 64 (r128.set k v) := ⟨_, rfl⟩
  have hl1 : (r128.set k v).length = 128 := by simp [r128]
  have er : Nr.erases (c2 (r128.set k v) [0, 0]) b = (0, c2 z2 ([0, 0].set b 1)) := by
    have e0 : Nr.wrong (c2 (r128.set k v) [0, 0]) b ((c2 (r128.set k v) [0, 0]).wear.length : Int) = 0 := Nr.wrong_in rfl (by show (b : Int) < 2; omega)
    unfold Nr.erases
    rw [if_pos e0]
    rcases hb2 with h | h
    · subst h
      rw [if_pos (show (c2 (r128.set k v) [0, 0]).wear.getD ((0 : Nat) : Int).toNat 0 < (c2 (r128.set k v) [0, 0]).endure by show (0 : Int) < 5; decide), hz2]
      rfl
    · subst h
      rw [if_pos (show (c2 (r128.set k v) [0, 0]).wear.getD ((1 : Nat) : Int).toNat 0 < (c2 (r128.set k v) [0, 0]).endure by show (0 : Int) < 5; decide), hz2]
      rfl
  refine ⟨fl (c2 r128 [0, 0]) 0 0 0 noL none, fl (c2 r128 [0, 0]) 1 64 0 noL none, fl (c2 (r128.set k v) [0, 0]) 1 0 0 noL none, fl (c2 (r128.set k v) [0, 0]) 1 32 0 noL none, fl (c2 z2 ([0, 0].set b 1)) 1 0 0 noL none,
    fun l => fl (c2 r128 [0, 0]) 1 0 0 noL (some ⟨l, true, k, v⟩), fun l => fl (c2 (r128.set k v) [0, 0]) 1 0 0 noL (some ⟨l, false, b, 0⟩), r128, r128.set k v, z2,
    ⟨rfl, write_cmd (fl_wrong hk _ _ _ _ _ _ _ _) rfl rfl, write_wait (fl_wrong hk _ _ _ _ _ _ _ _) rfl (by decide), fun l x => write_job (fl_wrong hk _ _ _ _ _ _ _ _) rfl, fun l => read_job (fl_wrong hk _ _ _ _ _ _ _ _) rfl,
      fun l hl => tick_wait (fl_wrong hk0 _ _ _ _ _ _ _ _) (by decide) rfl hl, fun l => rfl, tick_done (fl_wrong hk0 _ _ _ _ _ _ _ _) (by decide) rfl (by show ¬ (1 : Int) < 1; decide) (c2_program hk hv hv') (by decide), ?_, rfl,
      write_cmd (fl_wrong hk _ _ _ _ _ _ _ _) rfl rfl, ?_, tick_wait (fl_wrong hk0 _ _ _ _ _ _ _ _) (by decide) rfl (by show (19 : Int) < 20; decide), rfl, rfl, tick_done (fl_wrong hk0 _ _ _ _ _ _ _ _) (by decide) rfl (by show ¬ (1 : Int) < 1; decide) er (by decide), ?_, rfl, ?_⟩, by simp [r128], r128_get hk, hl1, r128_set hk v, ?_, ?_⟩
  · show bits .or .u32 0 128 = 128; decide
  · have := write_wait (s := fl (c2 (r128.set k v) [0, 0]) 1 32 0 noL none) (at_ := k) (v := 208) (fl_wrong hk _ _ _ _ _ _ _ _) rfl (by show ¬ (32 : Int) = 0; decide)
    show write _ _ _ = _
    rw [this]
    show ((0 : Int), ({ (fl (c2 (r128.set k v) [0, 0]) 1 0 0 noL none) with job := some ⟨20, false, (k : Int) / 64, 0⟩ } : Fl)) = _
    rw [hbi]; rfl
  · show bits .or .u32 0 128 = 128; decide
  · show Nr.worn _ _ = 1
    rw [hbi]
    rcases hb2 with h | h <;> subst h <;> rfl
  · rw [hz2, Nr.length_changed]; exact hl1
  · rw [hz2, Nr.getD_changed _ _ _ _ _ _ _ (by rw [hl1]; exact hk), if_pos (by omega)]; rfl

/-! CfiOrders -/
theorem bad_end (m : Int) (hm : 0 ≤ m) : ∃ (s2 : Fl) (z : List Int), Hid (status (fl (c2 r128 [0, 0]) 1 0 48 noL none) = 176) ∧ Hid (write (fl (c2 r128 [0, 0]) 1 0 48 noL none) 0 80 = (0, s2)) ∧ Hid (status s2 = 128) ∧ Hid (s2.c.words = z) ∧ z.length = 128 ∧ z.getD 0 0 = 4294967295 :=
  ⟨fl (c2 r128 [0, 0]) 1 0 0 noL none, r128, by show bits .or .u32 48 128 = 176; decide, write_cmd (fl_wrong (k := 0) (by decide) _ _ _ _ _ _ _ _) rfl rfl, by show bits .or .u32 0 128 = 128; decide, rfl, by simp [r128], r128_get (by decide)⟩
theorem or0_48 : bits .or .u32 0 48 = 48 := by decide
theorem bad0 {v : Int} (h : ¬ v % 256 = 255 ∧ ¬ v % 256 = 112 ∧ ¬ v % 256 = 144 ∧ ¬ v % 256 = 152 ∧ ¬ v % 256 = 80 ∧ ¬ v % 256 = 64 ∧ ¬ v % 256 = 32 ∧ ¬ v % 256 = 96) : write (new (Nr.new 2 5)) 0 v = (0, fl (c2 r128 [0, 0]) 1 0 48 noL none) := by
  have := write_cmd (s := fl (c2 r128 [0, 0]) 0 0 0 noL none) (at_ := 0) (v := v) (fl_wrong (k := 0) (by decide) _ _ _ _ _ _ _ _) rfl rfl
  refine this.trans (congrArg (Prod.mk 0) ?_)
  obtain ⟨h1, h2, h3, h4, h5, h6, h7, h8⟩ := h
  unfold command
  rw [if_neg h1, if_neg h2, if_neg h3, if_neg h4, if_neg h5, if_neg h6, if_neg h7, if_neg h8]
  show fl (c2 r128 [0, 0]) 1 0 (bits .or .u32 0 48) noL none = _
  rw [or0_48]
theorem first32 : write (new (Nr.new 2 5)) 0 32 = (0, fl (c2 r128 [0, 0]) 1 32 0 noL none) := write_cmd (s := fl (c2 r128 [0, 0]) 0 0 0 noL none) (fl_wrong (k := 0) (by decide) _ _ _ _ _ _ _ _) rfl rfl
theorem first96 : write (new (Nr.new 2 5)) 0 96 = (0, fl (c2 r128 [0, 0]) 1 96 0 noL none) := write_cmd (s := fl (c2 r128 [0, 0]) 0 0 0 noL none) (fl_wrong (k := 0) (by decide) _ _ _ _ _ _ _ _) rfl rfl
theorem bad32 {v : Int} (h : ¬ v % 256 = 208) : write (fl (c2 r128 [0, 0]) 1 32 0 noL none) 0 v = (0, fl (c2 r128 [0, 0]) 1 0 48 noL none) := by
  have := write_wait (s := fl (c2 r128 [0, 0]) 1 32 0 noL none) (at_ := 0) (v := v) (fl_wrong (k := 0) (by decide) _ _ _ _ _ _ _ _) rfl (by show ¬ (32 : Int) = 0; decide)
  refine this.trans (congrArg (Prod.mk 0) ?_)
  show eras1 (fl (c2 r128 [0, 0]) 1 0 0 noL none) 0 v = _
  unfold eras1
  rw [if_neg h]
  show fl (c2 r128 [0, 0]) 1 0 (bits .or .u32 0 48) noL none = _
  rw [or0_48]
theorem bad96 {v : Int} (h : ¬ v % 256 = 208) (h' : ¬ v % 256 = 1) : write (fl (c2 r128 [0, 0]) 1 96 0 noL none) 0 v = (0, fl (c2 r128 [0, 0]) 1 0 48 noL none) := by
  have := write_wait (s := fl (c2 r128 [0, 0]) 1 96 0 noL none) (at_ := 0) (v := v) (fl_wrong (k := 0) (by decide) _ _ _ _ _ _ _ _) rfl (by show ¬ (96 : Int) = 0; decide)
  refine this.trans (congrArg (Prod.mk 0) ?_)
  show lock1 (fl (c2 r128 [0, 0]) 1 0 0 noL none) 0 v = _
  unfold lock1
  rw [if_neg h', if_neg h]
  show fl (c2 r128 [0, 0]) 1 0 (bits .or .u32 0 48) noL none = _
  rw [or0_48]
theorem and255 {v : Int} (hv : 0 ≤ v) (hv' : v < 4294967296) : bits .and .u32 v 255 = v % 256 := by
  have r := Bt.rng_and hv hv' (y := 255) (by decide) (by decide)
  refine Bt.ext r.1 r.2 (by omega) (by omega) fun i h h' => ?_
  rw [Bt.tb_and hv hv' (by decide) (by decide)]
  obtain ⟨n, rfl⟩ := Int.eq_ofNat_of_zero_le hv
  obtain ⟨k, rfl⟩ := Int.eq_ofNat_of_zero_le h
  have e : ((n : Int) % 256).toNat = n % 2 ^ 8 := by omega
  have e2 : (255 : Int).toNat = 2 ^ 8 - 1 := by decide
  simp only [Bt.tb, e, e2, Int.toNat_natCast, Nat.testBit_mod_two_pow, Nat.testBit_two_pow_sub_one]
  simp [Bool.and_comm]

/-! CfiLocks -/
theorem locks_tail {k : Nat} (hk : k < 128) (l : List Int) (e : Int) : ∃ s6 s7 s8 s9 : Fl, Hid (write (fl (c2 l [0, 0]) 1 0 e (upd noL ((k : Int) / 64) true) none) 0 80 = (0, s6)) ∧ Hid (write s6 0 144 = (0, s7)) ∧ Hid (read s7 ((k : Int) / 64 * 64 + 2) = (1, 0)) ∧ Hid (reset s7 = s8) ∧ Hid (write s8 0 144 = (0, s9)) ∧
    Hid (read s9 ((k : Int) / 64 * 64 + 2) = (0, 0)) ∧ Hid (status s9 = 128) := by
  obtain ⟨b, hb, hb2⟩ : ∃ b : Nat, (k : Int) / 64 = b ∧ b < 2 := ⟨k / 64, by omega, by omega⟩
  have ha : (k : Int) / 64 * 64 + 2 = ((b * 64 + 2 : Nat) : Int) := by omega
  have h0 : (0 : Nat) < 128 := by decide
  have h2 : b * 64 + 2 < 128 := by omega
  have m1 : ((b * 64 + 2 : Nat) : Int) % 64 = 2 := by omega
  have m2 : ((b * 64 + 2 : Nat) : Int) / 64 = b := by omega
  rw [ha, hb]
  refine ⟨fl (c2 l [0, 0]) 1 0 0 (upd noL b true) none, fl (c2 l [0, 0]) 2 0 0 (upd noL b true) none, fl (c2 l [0, 0]) 0 0 0 noL none, fl (c2 l [0, 0]) 2 0 0 noL none,
    write_cmd (fl_wrong h0 _ _ _ _ _ _ _ _) rfl rfl, write_cmd (fl_wrong h0 _ _ _ _ _ _ _ _) rfl rfl, ?_, rfl, write_cmd (fl_wrong h0 _ _ _ _ _ _ _ _) rfl rfl, ?_, by show bits .or .u32 0 128 = 128; decide⟩
  · refine (read_none (fl_wrong h2 _ _ _ _ _ _ _ _) rfl).trans (congrArg (·, (0 : Int)) ?_)
    refine (if_neg (by show ¬ (2 : Int) = 0; decide)).trans ((if_pos rfl).trans ?_)
    unfold ids
    rw [m1, m2, if_neg (by decide), if_neg (by decide), if_pos rfl]
    show (if upd noL b true b = true then (1 : Int) else 0) = 1
    unfold upd; simp
  · refine (read_none (fl_wrong h2 _ _ _ _ _ _ _ _) rfl).trans (congrArg (·, (0 : Int)) ?_)
    refine (if_neg (by show ¬ (2 : Int) = 0; decide)).trans ((if_pos rfl).trans ?_)
    unfold ids
    rw [m1, m2, if_neg (by decide), if_neg (by decide), if_pos rfl]
    rfl
theorem locks_head {k : Nat} (hk : k < 128) : ∃ s1 : Fl, Hid (write (fl (c2 r128 [0, 0]) 0 0 0 noL none) k 96 = (0, s1)) ∧ Hid (write s1 k 1 = (0, fl (c2 r128 [0, 0]) 1 0 0 (upd noL ((k : Int) / 64) true) none)) := by
  refine ⟨fl (c2 r128 [0, 0]) 1 96 0 noL none, write_cmd (fl_wrong hk _ _ _ _ _ _ _ _) rfl rfl, ?_⟩
  exact write_wait (fl_wrong hk _ _ _ _ _ _ _ _) rfl (by show ¬ (96 : Int) = 0; decide)
theorem locks_mid {o : Nat} (ho : o < 128) (L : Int → Bool) : ∃ s3 : Fl, Hid (write (fl (c2 r128 [0, 0]) 1 0 0 L none) o 64 = (0, s3)) ∧ ∀ v, 0 ≤ v → v < 4294967296 →
    (L ((o : Int) / 64) = true → Hid (write s3 o v = (0, fl (c2 r128 [0, 0]) 1 0 18 L none)) ∧ Hid (tick (fl (c2 r128 [0, 0]) 1 0 18 L none) 3 = (0, fl (c2 r128 [0, 0]) 1 0 18 L none)) ∧ Hid (status (fl (c2 r128 [0, 0]) 1 0 18 L none) = 146)) ∧
    (L ((o : Int) / 64) = false → ∃ s4, Hid (write s3 o v = (0, s4)) ∧ Hid (tick s4 3 = (0, fl (c2 (r128.set o v) [0, 0]) 1 0 0 L none)) ∧ Hid (status s4 = 0)) := by
  have h0 : (0 : Nat) < 128 := by decide
  refine ⟨fl (c2 r128 [0, 0]) 1 64 0 L none, write_cmd (fl_wrong ho _ _ _ _ _ _ _ _) rfl rfl, fun v hv hv' => ⟨fun hL => ⟨?_, tick_none (fl_wrong h0 _ _ _ _ _ _ _ _) (by decide) rfl, by show bits .or .u32 18 128 = 146; decide⟩, fun hL => ⟨fl (c2 r128 [0, 0]) 1 0 0 L (some ⟨3, true, o, v⟩), ?_, ?_, rfl⟩⟩⟩
  · refine (write_wait (fl_wrong ho _ _ _ _ _ _ _ _) rfl (by show ¬ (64 : Int) = 0; decide)).trans (congrArg (Prod.mk 0) ?_)
    show prog1 (fl (c2 r128 [0, 0]) 1 0 0 L none) o v = _
    unfold prog1
    rw [if_pos (show (fl (c2 r128 [0, 0]) 1 0 0 L none).locks ((o : Int) / 64) = true from hL)]
    show fl (c2 r128 [0, 0]) 1 0 (bits .or .u32 0 18) L none = _
    rw [show bits .or .u32 0 18 = 18 by decide]
  · refine (write_wait (fl_wrong ho _ _ _ _ _ _ _ _) rfl (by show ¬ (64 : Int) = 0; decide)).trans (congrArg (Prod.mk 0) ?_)
    show prog1 (fl (c2 r128 [0, 0]) 1 0 0 L none) o v = _
    unfold prog1
    rw [if_neg (show ¬ (fl (c2 r128 [0, 0]) 1 0 0 L none).locks ((o : Int) / 64) = true by rw [show (fl (c2 r128 [0, 0]) 1 0 0 L none).locks ((o : Int) / 64) = false from hL]; decide)]
    rfl
  · exact tick_done (fl_wrong h0 _ _ _ _ _ _ _ _) (by decide) rfl (by show ¬ (3 : Int) < 3; decide) (c2_program ho hv hv') (by decide)

/-! CfiModes -/
def r192 : List Int := List.replicate 192 4294967295
theorem r192_len : r192.length = 192 := List.length_replicate
def c3 (l : List Int) : Nr.C := ⟨l, [0, 0, 0], 5, 0, 0, false⟩
theorem modes_chain {k : Nat} (hk : k < 192) {v : Int} (hv : 0 ≤ v) (hv' : v < 4294967296) : ∃ (s0 s1 s2 s3 s4 : Fl) (c1 : Nr.C) (x y : Int), Hid (new (Nr.new 3 5) = s0) ∧ s0.job = none ∧ Hid (Nr.programs s0.c k v = (0, c1)) ∧ Hid ({ s0 with c := c1 } = s1) ∧ Hid (read s1 k = (v, 0)) ∧ Hid (write s1 0 112 = (0, s2)) ∧ Hid (read s2 k = (128, 0)) ∧
    Hid (write s2 0 144 = (0, s3)) ∧ Hid (read s3 k = (x, 0)) ∧ Hid (write s3 0 152 = (0, s4)) ∧ Hid (read s4 k = (y, 0)) ∧ x = (if (k : Int) % 64 = 0 then 137 else if (k : Int) % 64 = 1 then 24 else 0) ∧ y = (if (k : Int) = 16 then 81 else if (k : Int) = 17 then 82 else if (k : Int) = 18 then 89 else if (k : Int) = 44 then 3 else 0) := by
  have w : ∀ {m : Nat} (h : m < 192) (l : List Int) (a b e : Int) (L : Int → Bool) (j : Option Jb), wrong (fl (c3 l) a b e L j) m = 0 := fun h l a b e L j => wrong_in rfl h
  have h0 : (0 : Nat) < 192 := by decide
  refine ⟨fl (c3 r192) 0 0 0 noL none, fl (c3 (r192.set k v)) 0 0 0 noL none, fl (c3 (r192.set k v)) 1 0 0 noL none, fl (c3 (r192.set k v)) 2 0 0 noL none, fl (c3 (r192.set k v)) 3 0 0 noL none, c3 (r192.set k v), _, _, rfl, rfl, ?_, rfl, ?_, write_cmd (w h0 _ _ _ _ _ _) rfl rfl, ?_, write_cmd (w h0 _ _ _ _ _ _) rfl rfl, ?_, write_cmd (w h0 _ _ _ _ _ _) rfl rfl, ?_, rfl, rfl⟩
  · have := Nr.programs_calm (c := c3 r192) r192_len (m := k) (by show k < r192.length; rw [r192_len]; exact hk) rfl rfl v
    rw [show (c3 r192).words.getD k 0 = 4294967295 by show r192.getD k 0 = _; unfold r192; rw [Nr.getD_replicate, if_pos hk], Nr.and_ones hv hv'] at this
    exact this
  · refine (read_none (w hk _ _ _ _ _ _) rfl).trans (congrArg (·, (0 : Int)) ?_)
    exact Nr.getD_set_self (l := r192) (by rw [r192_len]; exact hk) v
  · refine (read_none (w hk _ _ _ _ _ _) rfl).trans (congrArg (·, (0 : Int)) ?_)
    show bits .or .u32 0 128 = 128; decide
  · refine (read_none (w hk _ _ _ _ _ _) rfl).trans (congrArg (·, (0 : Int)) ?_)
    refine (if_neg (by show ¬ (2 : Int) = 0; decide)).trans ((if_pos rfl).trans ?_)
    unfold ids
    split
    · rfl
    · split
      · rfl
      · show (if (k : Int) % 64 = 2 then (if noL ((k : Int) / 64) = true then (1 : Int) else 0) else 0) = 0
        split <;> rfl
  · refine (read_none (w hk _ _ _ _ _ _) rfl).trans (congrArg (·, (0 : Int)) ?_)
    exact (if_neg (by show ¬ (3 : Int) = 0; decide)).trans ((if_neg (by show ¬ (3 : Int) = 2; decide)).trans (if_pos rfl))
end Go.Proofs.Ytfghlfolejpjjaa.Cf
