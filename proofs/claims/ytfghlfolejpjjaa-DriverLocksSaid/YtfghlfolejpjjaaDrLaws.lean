/- What the laws of chapter 5 ask, of the plain law alone. -/
import Derived.Test.YtfghlfolejpjjaaDr2
namespace Go.Proofs.Ytfghlfolejpjjaa.Cf
open Go.RowKit
set_option linter.unusedVariables false
/-- A flash that is calm, and has power, and no fuse. -/
def D (E : Int) (l ws : List Int) (L : Int → Bool) (m : Int) : Fl := ⟨⟨l, ws, E, 0, 0, false⟩, m, 0, 0, L, none⟩
theorem D_words (E : Int) (l ws : List Int) (L : Int → Bool) (m : Int) : (D E l ws L m).c.words = l := rfl
theorem D_calm (E : Int) (l ws : List Int) (L : Int → Bool) (m : Int) : Calm (D E l ws L m) := ⟨rfl, rfl, rfl⟩
section
variable {E m : Int} {l ws : List Int} {L : Int → Bool}
theorem D_wrong {k : Nat} (hk : k < 64 * ws.length) : wrong (D E l ws L m) k = 0 := wrong_in rfl hk
theorem blk (b : Nat) : ((b : Int) * 64) / 64 = b := by omega
theorem lw_D {b : Nat} (hb : b < ws.length) (on : Bool) : lw (D E l ws L m) b on = (0, D E l ws (upd L b on) 1) := by
  have h : wrong (D E l ws L m) ((b : Int) * 64) = 0 := by
    have := D_wrong (E := E) (l := l) (L := L) (m := m) (k := b * 64) (ws := ws) (by omega)
    rwa [show ((b * 64 : Nat) : Int) = (b : Int) * 64 by omega] at this
  unfold lw
  rw [if_pos h, blk]
  rfl
theorem pw_D (hs : l.length = 64 * ws.length) {k : Nat} (hk : k < l.length) (hL : L ((k : Int) / 64) = false) (v : Int) : pw (D E l ws L m) k v = (0, 3, D E (l.set k (bits .and .u32 (l.getD k 0) v)) ws L 1) := by
  unfold pw
  rw [if_pos (D_wrong (by omega)), if_neg (show ¬ (D E l ws L m).locks ((k : Int) / 64) = true by show ¬ L _ = true; rw [hL]; decide)]
  have := Nr.programs_calm (c := (D E l ws L m).c) hs hk rfl rfl v
  rw [this]; rfl
theorem pw_locked {k : Nat} (hk : k < 64 * ws.length) (hL : L ((k : Int) / 64) = true) (v : Int) : pw (D E l ws L m) k v = (6, 0, D E l ws L 1) := by
  unfold pw
  rw [if_pos (D_wrong hk), if_pos (show (D E l ws L m).locks ((k : Int) / 64) = true from hL)]
  rfl
theorem ew_wrong {b : Nat} (hb : b < ws.length) : wrong (D E l ws L m) ((b : Int) * 64) = 0 := by
  have := D_wrong (E := E) (l := l) (L := L) (m := m) (k := b * 64) (ws := ws) (by omega)
  rwa [show ((b * 64 : Nat) : Int) = (b : Int) * 64 by omega] at this
/-- A block, erased. -/
def ones (b : Nat) (l : List Int) : List Int := Nr.changed (fun _ => 4294967295) false 0 (b * 64) 64 l
theorem ones_len (b : Nat) (l : List Int) : (ones b l).length = l.length := Nr.length_changed _ _ _ _ _ _
theorem ones_get {b : Nat} {i : Nat} (hi : i < l.length) : (ones b l).getD i 0 = if b * 64 ≤ i ∧ i < b * 64 + 64 then 4294967295 else l.getD i 0 := by
  unfold ones; rw [Nr.getD_changed _ _ _ _ _ _ _ hi]; rfl
theorem ones_ones (b : Nat) (l : List Int) : ones b (ones b l) = ones b l := by
  apply Nr.ext_getD
  · rw [ones_len]
  · intro i hi
    rw [ones_len, ones_len] at hi
    rw [ones_get (by rw [ones_len]; exact hi), ones_get hi]
    split <;> rfl
theorem ew_D {b : Nat} (hb : b < ws.length) (hL : L (b : Int) = false) (he : ws.getD b 0 < E) : ew (D E l ws L m) b = (0, 20, D E (ones b l) (ws.set b (ws.getD b 0 + 1)) L 1) := by
  unfold ew
  rw [if_pos (ew_wrong hb), blk, if_neg (show ¬ (D E l ws L m).locks (b : Int) = true by show ¬ L _ = true; rw [hL]; decide)]
  have hw : Nr.wrong (D E l ws L m).c (b : Int) ((D E l ws L m).c.wear.length : Int) = 0 := Nr.wrong_in rfl (by show (b : Int) < (ws.length : Int); omega)
  have : Nr.erases (D E l ws L m).c (b : Int) = (0, ⟨ones b l, ws.set b (ws.getD b 0 + 1), E, 0, 0, false⟩) := by
    unfold Nr.erases
    rw [if_pos hw, if_pos (show (D E l ws L m).c.wear.getD (b : Int).toNat 0 < (D E l ws L m).c.endure by rw [Int.toNat_natCast]; exact he)]
    unfold Nr.erase Nr.change
    rw [Int.toNat_natCast]
    rfl
  rw [this]; rfl
theorem ew_worn {b : Nat} (hb : b < ws.length) (hL : L (b : Int) = false) (he : ¬ ws.getD b 0 < E) : ew (D E l ws L m) b = (5, 20, D E l ws L 1) := by
  unfold ew
  rw [if_pos (ew_wrong hb), blk, if_neg (show ¬ (D E l ws L m).locks (b : Int) = true by show ¬ L _ = true; rw [hL]; decide)]
  have hw : Nr.wrong (D E l ws L m).c (b : Int) ((D E l ws L m).c.wear.length : Int) = 0 := Nr.wrong_in rfl (by show (b : Int) < (ws.length : Int); omega)
  have : Nr.erases (D E l ws L m).c (b : Int) = (5, (D E l ws L m).c) := by
    unfold Nr.erases
    rw [if_pos hw, if_neg (show ¬ (D E l ws L m).c.wear.getD (b : Int).toNat 0 < (D E l ws L m).c.endure by rw [Int.toNat_natCast]; exact he)]
  rw [this]; rfl
theorem ew_locked {b : Nat} (hb : b < ws.length) (hL : L (b : Int) = true) : ew (D E l ws L m) b = (6, 0, D E l ws L 1) := by
  unfold ew
  rw [if_pos (ew_wrong hb), blk, if_pos (show (D E l ws L m).locks (b : Int) = true from hL)]
  rfl
theorem pws_one {s : Fl} {k : Int} {v : Int} : pws s k [v] = pw s k v := by
  show pwN s k [v] 1 = _
  rw [pwN_step (k := 0) rfl]
  show ((pw s (k + (0 : Nat)) v).1, 0 + (pw s (k + (0 : Nat)) v).2.1, (pw s (k + (0 : Nat)) v).2.2) = _
  rw [show k + ((0 : Nat) : Int) = k by omega, show (0 : Int) + (pw s k v).2.1 = (pw s k v).2.1 by omega]
/-- Words, of which n are programmed. -/
def progs (l : List Int) (k : Nat) (zs : List Int) (n : Nat) : List Int := l.mapIdx fun i w => if k ≤ i ∧ i < k + n then bits .and .u32 w (zs.getD (i - k) 0) else w
theorem progs_len (l : List Int) (k : Nat) (zs : List Int) (n : Nat) : (progs l k zs n).length = l.length := by simp [progs]
theorem progs_get {k n i : Nat} {zs : List Int} (hi : i < l.length) : (progs l k zs n).getD i 0 = if k ≤ i ∧ i < k + n then bits .and .u32 (l.getD i 0) (zs.getD (i - k) 0) else l.getD i 0 := by
  simp [progs, List.getD, hi]
theorem progs_zero (l : List Int) (k : Nat) (zs : List Int) : progs l k zs 0 = l := by
  apply Nr.ext_getD (progs_len _ _ _ _)
  intro i hi
  rw [progs_len] at hi
  rw [progs_get hi, if_neg (by omega)]
theorem progs_succ {k n : Nat} {zs : List Int} (h : k + n < l.length) : (progs l k zs n).set (k + n) (bits .and .u32 ((progs l k zs n).getD (k + n) 0) (zs.getD n 0)) = progs l k zs (n + 1) := by
  apply Nr.ext_getD
  · simp [progs_len]
  · intro i hi
    have hi' : i < l.length := by simpa [progs_len] using hi
    rw [Nr.getD_set, progs_get hi', progs_get hi', progs_len]
    by_cases e : k + n = i
    · subst e
      rw [if_pos ⟨rfl, h⟩, if_pos (by omega), progs_get h, if_neg (by omega), show k + n - k = n by omega]
    · rw [if_neg (by omega)]
      by_cases c : k ≤ i ∧ i < k + n
      · rw [if_pos c, if_pos (by omega)]
      · rw [if_neg c, if_neg (by omega)]
theorem pwN_D (hs : l.length = 64 * ws.length) (hL : ∀ x, L x = false) {k : Nat} {zs : List Int} (hk : k + zs.length ≤ l.length) : ∀ n, n ≤ zs.length → pwN (D E l ws L m) k zs n = (0, 3 * (n : Int), D E (progs l k zs n) ws L (if n = 0 then m else 1))
  | 0, _ => by
    rw [progs_zero]; rfl
  | n + 1, hn => by
    have ih := pwN_D hs hL hk n (by omega)
    rw [pwN_step (by rw [ih])]
    rw [ih]
    show ((pw (D E (progs l k zs n) ws L (if n = 0 then m else 1)) ((k : Int) + (n : Int)) (zs.getD n 0)).1, 3 * (n : Int) + (pw (D E (progs l k zs n) ws L (if n = 0 then m else 1)) ((k : Int) + (n : Int)) (zs.getD n 0)).2.1, (pw (D E (progs l k zs n) ws L (if n = 0 then m else 1)) ((k : Int) + (n : Int)) (zs.getD n 0)).2.2) = _
    rw [show (k : Int) + (n : Int) = ((k + n : Nat) : Int) by omega, pw_D (by rw [progs_len]; exact hs) (by rw [progs_len]; omega) (hL _), progs_succ (by omega)]
    show (0, 3 * (n : Int) + 3, _) = _
    rw [show 3 * (n : Int) + 3 = 3 * ((n + 1 : Nat) : Int) by omega]
    rfl
theorem pws_D (hs : l.length = 64 * ws.length) (hL : ∀ x, L x = false) {k : Nat} {zs : List Int} (hk : k + zs.length ≤ l.length) : ∃ m', pws (D E l ws L m) k zs = (0, 3 * (zs.length : Int), D E (progs l k zs zs.length) ws L m') := ⟨_, pwN_D hs hL hk zs.length (Nat.le_refl _)⟩
end
/-! DriverLocks -/
theorem upd_self (L : Int → Bool) (k : Int) (b : Bool) : upd L k b k = b := if_pos rfl
theorem upd_ne {L : Int → Bool} {k x : Int} {b : Bool} (h : ¬ x = k) : upd L k b x = L x := if_neg h
theorem locks_tail5 {l ws : List Int} {L : Int → Bool} {m v : Int} {a : Nat} (hl : l.length = 192) (hw : ws.length = 3) (ha : a < 3) (hL : L (a : Int) = false) (h0 : ws.getD a 0 = 0) (h1 : l.getD (64 * a) 0 = 4294967295) (hv : 0 ≤ v) (hv' : v < 4294967296) :
    ∃ s5 s6 zs, Hid (pws (D 5 l ws L m) ((64 * a : Nat) : Int) [v] = (0, 3, s5)) ∧ Hid (s5.c.words = zs) ∧ zs.length = 192 ∧ zs.getD (64 * a) 0 = v ∧ Hid (ew s5 a = (0, 20, s6)) ∧ Hid (Nr.worn s6.c a = 1) ∧ Hid (Calm s5) := by
  have e : ((64 * a : Nat) : Int) / 64 = (a : Int) := by omega
  refine ⟨_, _, _, pws_one.trans (pw_D (by omega) (by omega) (by rw [e]; exact hL) v), rfl, by simp [D, hl], ?_, ew_D (by omega) hL (by omega), ?_, D_calm _ _ _ _ _⟩
  · rw [show (D 5 (l.set (64 * a) (bits .and .u32 (l.getD (64 * a) 0) v)) ws L 1).c.words = l.set (64 * a) (bits .and .u32 (l.getD (64 * a) 0) v) from rfl, Nr.getD_set_self (by omega), h1, Nr.and_ones hv hv']
  · have : Nr.worn (⟨ones a (l.set (64 * a) (bits .and .u32 (l.getD (64 * a) 0) v)), ws.set a (ws.getD a 0 + 1), 5, 0, 0, false⟩ : Nr.C) (a : Int) = 1 := by
      show (if (a : Int) < 0 then 0 else (ws.set a (ws.getD a 0 + 1)).getD (a : Int).toNat 0) = 1
      rw [if_neg (by omega), Int.toNat_natCast, Nr.getD_set_self (by omega), h0]; rfl
    exact this
theorem worn_D {E m : Int} {l ws : List Int} {L : Int → Bool} (a : Nat) : Nr.worn (D E l ws L m).c a = ws.getD a 0 := by
  show (if (a : Int) < 0 then 0 else ws.getD (a : Int).toNat 0) = _
  rw [if_neg (by omega), Int.toNat_natCast]
theorem r192_get {k : Nat} (hk : k < 192) : r192.getD k 0 = 4294967295 := by unfold r192; rw [Nr.getD_replicate, if_pos hk]
theorem z3_get (b : Nat) : ([0, 0, 0] : List Int).getD b 0 = 0 := by
  match b with
  | 0 => rfl
  | 1 => rfl
  | 2 => rfl
  | b + 3 => rfl
theorem locks5 {a b : Nat} (ha : a < 3) (hb : b < 3) {v : Int} (hv : 0 ≤ v) (hv' : v < 4294967296) :
    ∃ s0 s1 s2 s3 s4 s5 s6 x t2 t3 zs, Hid (new (Nr.new 3 5) = s0) ∧ Hid (lw s0 a true = (0, s1)) ∧ Hid (pws s1 ((64 * b : Nat) : Int) [v] = (x, t2, s2)) ∧ Hid (ew s2 b = (x, t3, s3)) ∧ Hid (lw s3 a false = (0, s4)) ∧ Hid (Nr.worn s4.c a = 0) ∧ x = (if a = b then 6 else 0) ∧ (0 ≤ t2 ∧ t2 ≤ 3) ∧ (0 ≤ t3 ∧ t3 ≤ 20) ∧
      Hid (Calm s0) ∧ Hid (Calm s1) ∧ Hid (Calm s2) ∧ Hid (Calm s3) ∧ Hid (Calm s4) ∧
      Hid (pws s4 ((64 * a : Nat) : Int) [v] = (0, 3, s5)) ∧ Hid (s5.c.words = zs) ∧ zs.length = 192 ∧ zs.getD (64 * a) 0 = v ∧ Hid (ew s5 a = (0, 20, s6)) ∧ Hid (Nr.worn s6.c a = 1) ∧ Hid (Calm s5) := by
  have hr : r192.length = 192 := r192_len
  have e : ((64 * b : Nat) : Int) / 64 = (b : Int) := by omega
  have h1 : lw (D 5 r192 [0, 0, 0] noL 0) a true = _ := lw_D (by simpa using ha) true
  by_cases h : a = b
  · subst h
    have hu : upd noL (a : Int) true (a : Int) = true := upd_self _ _ _
    have h2 : pws (D 5 r192 [0, 0, 0] (upd noL a true) 1) ((64 * a : Nat) : Int) [v] = _ := pws_one.trans (pw_locked (by show 64 * a < 192; omega) (by rw [e]; exact hu) v)
    have h3 : ew (D 5 r192 [0, 0, 0] (upd noL a true) 1) a = _ := ew_locked (by simpa using ha) hu
    have h4 : lw (D 5 r192 [0, 0, 0] (upd noL a true) 1) a false = _ := lw_D (by simpa using ha) false
    obtain ⟨s5, s6, zs, k1, k2, k3, k4, k5, k6, k7⟩ := locks_tail5 (l := r192) (ws := [0, 0, 0]) (L := upd (upd noL a true) a false) (m := 1) hr rfl ha (upd_self _ _ _) (z3_get a) (r192_get (by omega)) hv hv'
    exact ⟨_, _, _, _, _, s5, s6, 6, 0, 0, zs, rfl, h1, h2, h3, h4, (worn_D a).trans (z3_get a), (if_pos rfl).symm, ⟨by decide, by decide⟩, ⟨by decide, by decide⟩, D_calm _ _ _ _ _, D_calm _ _ _ _ _, D_calm _ _ _ _ _, D_calm _ _ _ _ _, D_calm _ _ _ _ _, k1, k2, k3, k4, k5, k6, k7⟩
  · have hu : upd noL (a : Int) true (b : Int) = false := upd_ne (by omega)
    have h2 : pws (D 5 r192 [0, 0, 0] (upd noL a true) 1) ((64 * b : Nat) : Int) [v] = _ := pws_one.trans (pw_D hr (by omega) (by rw [e]; exact hu) v)
    have h3 : ew (D 5 (r192.set (64 * b) (bits .and .u32 (r192.getD (64 * b) 0) v)) [0, 0, 0] (upd noL a true) 1) b = _ := ew_D (by simpa using hb) hu (by rw [z3_get]; decide)
    have h4 : lw (D 5 (ones b (r192.set (64 * b) (bits .and .u32 (r192.getD (64 * b) 0) v))) (([0, 0, 0] : List Int).set b (([0, 0, 0] : List Int).getD b 0 + 1)) (upd noL a true) 1) a false = _ := lw_D (by simpa using ha) false
    have hw : (([0, 0, 0] : List Int).set b (([0, 0, 0] : List Int).getD b 0 + 1)).getD a 0 = 0 := by rw [Nr.getD_set, if_neg (by omega), z3_get]
    have hz : (ones b (r192.set (64 * b) (bits .and .u32 (r192.getD (64 * b) 0) v))).getD (64 * a) 0 = 4294967295 := by
      rw [ones_get (by simp [hr]; omega), if_neg (by omega), Nr.getD_set, if_neg (by omega), r192_get (by omega)]
    obtain ⟨s5, s6, zs, k1, k2, k3, k4, k5, k6, k7⟩ := locks_tail5 (l := ones b (r192.set (64 * b) (bits .and .u32 (r192.getD (64 * b) 0) v))) (ws := ([0, 0, 0] : List Int).set b (([0, 0, 0] : List Int).getD b 0 + 1)) (L := upd (upd noL a true) a false) (m := 1) (by rw [ones_len, List.length_set, hr]) (by simp) ha (upd_self _ _ _) hw hz hv hv'
    exact ⟨_, _, _, _, _, s5, s6, 0, 3, 20, zs, rfl, h1, h2, h3, h4, (worn_D a).trans hw, (if_neg h).symm, ⟨by decide, by decide⟩, ⟨by decide, by decide⟩, D_calm _ _ _ _ _, D_calm _ _ _ _ _, D_calm _ _ _ _ _, D_calm _ _ _ _ _, D_calm _ _ _ _ _, k1, k2, k3, k4, k5, k6, k7⟩
/-! DriverErases -/
theorem rep_get {n k : Nat} (hk : k < n) : (List.replicate n (4294967295 : Int)).getD k 0 = 4294967295 := by rw [Nr.getD_replicate, if_pos hk]
theorem noL_all (x : Int) : noL x = false := rfl
def l2 (zs : List Int) : List Int := progs (progs r128 0 zs zs.length) 64 zs zs.length
theorem l2_len (zs : List Int) : (l2 zs).length = 128 := by unfold l2; rw [progs_len, progs_len]; simp [r128]
theorem l2_get {zs : List Int} (hl : zs.length ≤ 10) (hz : ∀ i : Nat, 0 ≤ zs.getD i 0 ∧ zs.getD i 0 < 4294967296) {b i : Nat} (hb : b < 2) (hi : i < zs.length) : (l2 zs).getD (64 * b + i) 0 = zs.getD i 0 := by
  have hr : r128.length = 128 := by simp [r128]
  have hp : (progs r128 0 zs zs.length).length = 128 := by rw [progs_len, hr]
  unfold l2
  rcases (show b = 0 ∨ b = 1 by omega) with rfl | rfl
  · rw [progs_get (by omega), if_neg (by omega), progs_get (by omega), if_pos (by omega), r128_get (by omega), Nr.and_ones (hz _).1 (hz _).2, show 64 * 0 + i - 0 = i by omega]
  · rw [progs_get (by omega), if_pos (by omega), progs_get (by omega), if_neg (by omega), r128_get (by omega), Nr.and_ones (hz _).1 (hz _).2, show 64 * 1 + i - 64 = i by omega]
theorem z2_set {b : Nat} (hb : b < 2) : (([0, 0] : List Int).set b 0) = [0, 0] := by rcases (show b = 0 ∨ b = 1 by omega) with rfl | rfl <;> rfl
theorem z2_get {b : Nat} (hb : b < 2) (j : Int) : (([0, 0] : List Int).set b j).getD b 0 = j := Nr.getD_set_self (by simpa using hb) j
theorem erases5 {k b : Nat} (hb : b < 2) {zs : List Int} (hl : zs.length ≤ 10) (hz : ∀ i : Nat, 0 ≤ zs.getD i 0 ∧ zs.getD i 0 < 4294967296) :
    ∃ (s0 s1 s3 : Fl) (J : Nat → Fl) (z : List Int), Hid (new (Nr.new 2 k) = s0) ∧ Hid (pws s0 0 zs = (0, 3 * (zs.length : Int), s1)) ∧ Hid (pws s1 64 zs = (0, 3 * (zs.length : Int), J 0)) ∧ Hid (∀ j, j < k → ew (J j) b = (0, 20, J (j + 1))) ∧ Hid (ew (J k) b = (5, 20, s3)) ∧ Hid (Nr.worn s3.c b = k) ∧ Hid (s3.c.words = z) ∧ z.length = 128 ∧
      Hid (∀ i, i < zs.length → z.getD (64 * b + i) 0 = (if k = 0 then zs.getD i 0 else 4294967295) ∧ z.getD (64 * (1 - b) + i) 0 = zs.getD i 0) ∧ Hid (Calm s0) ∧ Hid (Calm s1) ∧ Hid (∀ j, Calm (J j)) := by
  have hr : r128.length = 128 := by simp [r128]
  have hp : (progs r128 0 zs zs.length).length = 128 := by rw [progs_len, hr]
  obtain ⟨m1, h1⟩ := pws_D (E := k) (l := r128) (ws := [0, 0]) (L := noL) (m := 0) hr noL_all (k := 0) (zs := zs) (by omega)
  obtain ⟨m2, h2⟩ := pws_D (E := k) (l := progs r128 0 zs zs.length) (ws := [0, 0]) (L := noL) (m := m1) hp noL_all (k := 64) (zs := zs) (by omega)
  refine ⟨_, _, _, fun j => D k (if j = 0 then l2 zs else ones b (l2 zs)) (([0, 0] : List Int).set b j) noL (if j = 0 then m2 else 1), _, rfl, h1, ?_, fun j hj => ?_, ew_worn (by simpa using hb) rfl (by rw [z2_get hb]; omega), (worn_D b).trans (z2_get hb _), rfl, ?_, fun i hi => ⟨?_, ?_⟩, D_calm _ _ _ _ _, D_calm _ _ _ _ _, fun j => D_calm _ _ _ _ _⟩
  · show pws _ _ _ = _
    have e : D k (if (0 : Nat) = 0 then l2 zs else ones b (l2 zs)) (([0, 0] : List Int).set b ((0 : Nat) : Int)) noL (if (0 : Nat) = 0 then m2 else 1) = D k (progs (progs r128 0 zs zs.length) 64 zs zs.length) [0, 0] noL m2 := by
      rw [if_pos rfl, if_pos rfl, show ((0 : Nat) : Int) = 0 from rfl, z2_set hb]; unfold l2; rfl
    exact h2.trans (congrArg (fun x => (0, 3 * (zs.length : Int), x)) e.symm)
  · have := ew_D (E := k) (l := if j = 0 then l2 zs else ones b (l2 zs)) (ws := ([0, 0] : List Int).set b j) (L := noL) (m := if j = 0 then m2 else 1) (b := b) (by simpa using hb) rfl (by rw [z2_get hb]; omega)
    rw [this, z2_get hb, List.set_set]
    show (0, 20, _) = (0, 20, _)
    have e : ones b (if j = 0 then l2 zs else ones b (l2 zs)) = ones b (l2 zs) := by
      split
      · rfl
      · exact ones_ones _ _
    rw [e]
    show _ = (0, 20, D k (if j + 1 = 0 then l2 zs else ones b (l2 zs)) (([0, 0] : List Int).set b ((j + 1 : Nat) : Int)) noL (if j + 1 = 0 then m2 else 1))
    rw [if_neg (by omega), if_neg (by omega), show ((j + 1 : Nat) : Int) = (j : Int) + 1 by omega]
  · show (if k = 0 then l2 zs else ones b (l2 zs)).length = 128
    split
    · exact l2_len zs
    · rw [ones_len]; exact l2_len zs
  · show (if k = 0 then l2 zs else ones b (l2 zs)).getD (64 * b + i) 0 = _
    split
    · exact l2_get hl hz hb hi
    · rw [ones_get (by rw [l2_len]; omega), if_pos (by omega)]
  · show (if k = 0 then l2 zs else ones b (l2 zs)).getD (64 * (1 - b) + i) 0 = _
    split
    · exact l2_get hl hz (by omega) hi
    · rw [ones_get (by rw [l2_len]; omega), if_neg (by omega)]
      exact l2_get hl hz (by omega) hi
/-! DriverReads -/
theorem reads5 {k : Nat} (hk : k < 100) {zs : List Int} (hl : zs.length ≤ 10) : ∃ (s0 s1 : Fl) (z : List Int), Hid (new (Nr.new 2 5) = s0) ∧ Hid (pws s0 k zs = (0, 3 * (zs.length : Int), s1)) ∧ Hid (s1.c.words = z) ∧ z.length = 128 ∧ Hid (s1.c.off = false) ∧ Hid (Calm s0) ∧ Hid (Calm s1) := by
  have hr : r128.length = 128 := by simp [r128]
  obtain ⟨m1, h1⟩ := pws_D (E := 5) (l := r128) (ws := [0, 0]) (L := noL) (m := 0) hr noL_all (k := k) (zs := zs) (by omega)
  have hz : (progs r128 k zs zs.length).length = 128 := by rw [progs_len, hr]
  exact ⟨D 5 r128 [0, 0] noL 0, D 5 (progs r128 k zs zs.length) [0, 0] noL m1, progs r128 k zs zs.length, rfl, h1, D_words _ _ _ _ _, hz, rfl, D_calm _ _ _ _ _, D_calm _ _ _ _ _⟩
theorem sub_get (z : List Int) (k n i : Nat) (hi : i < n) : ((z.drop k).take n).getD i 0 = z.getD (k + i) 0 := by
  simp [List.getD, hi]
theorem sub_len {z : List Int} {k n : Nat} (h : k + n ≤ z.length) : ((z.drop k).take n).length = n := by simp; omega
theorem sub_app {z : List Int} {k n m : Nat} (hn : n ≤ m) (h : k + m ≤ z.length) : (z.drop k).take n ++ (z.drop (k + n)).take (m - n) = (z.drop k).take m := by
  apply Nr.ext_getD
  · simp; omega
  · intro i hi
    have hi2 : i < m := by simp at hi; omega
    rw [sub_get z k m i hi2]
    by_cases h2 : i < n
    · rw [← sub_get z k n i h2]
      simp [List.getD, List.getElem?_append, show i < min n (z.length - k) by omega]
    · simp [List.getD, List.getElem?_append, show ¬ i < min n (z.length - k) by omega, show i - min n (z.length - k) < m - n by omega]
      congr 2; omega
/-! DriverStops -/
def Fz (l : List Int) (f pick : Int) (off : Bool) (m : Int) : Fl := ⟨⟨l, [0, 0], 5, f, pick, off⟩, m, 0, 0, noL, none⟩
theorem Fz_calm (l : List Int) (f pick : Int) (off : Bool) (m : Int) : Calm (Fz l f pick off m) := ⟨rfl, rfl, rfl⟩
theorem Fz_words (l : List Int) (f pick : Int) (off : Bool) (m : Int) : (Fz l f pick off m).c.words = l := rfl
theorem Fz_dark (l : List Int) (f pick m a : Int) : wrong (Fz l f pick true m) a = 4 := Nr.wrong_dark rfl
theorem pw_Fz {l : List Int} (hl : l.length = 128) {k : Nat} (hk : k < 128) (f pick m v : Int) :
    pw (Fz l f pick false m) k v = (if f = 1 then 4 else 0, 3, Fz (l.set k (Nr.way (decide (f = 1)) pick 0 (l.getD k 0) (bits .and .u32 (l.getD k 0) v))) (max (f - 1) 0) pick (decide (f = 1)) 1) := by
  have hw : wrong (Fz l f pick false m) k = 0 := wrong_in rfl (by show k < 64 * 2; omega)
  unfold pw
  rw [if_pos hw, if_neg (show ¬ (Fz l f pick false m).locks ((k : Int) / 64) = true by show ¬ false = true; decide)]
  have := Nr.programs_at (c := (Fz l f pick false m).c) (by show l.length = 64 * 2; omega) (m := k) (by show k < l.length; omega) rfl v
  rw [this]; rfl
theorem pwN_Fz {stop pick m : Int} {k : Nat} {zs : List Int} (hk : k + zs.length ≤ 128) : ∀ n : Nat, n ≤ zs.length → (n : Int) + 1 ≤ stop → ∃ m', pwN (Fz r128 stop pick false m) k zs n = (0, 3 * (n : Int), Fz (progs r128 k zs n) (stop - n) pick false m')
  | 0, _, _ => ⟨m, by rw [progs_zero, show stop - ((0 : Nat) : Int) = stop by omega]; rfl⟩
  | n + 1, hn, hs => by
    have hr : r128.length = 128 := by simp [r128]
    obtain ⟨m', ih⟩ := pwN_Fz (stop := stop) (pick := pick) (m := m) hk n (by omega) (by omega)
    refine ⟨1, ?_⟩
    have hp : (progs r128 k zs n).length = 128 := by rw [progs_len, hr]
    rw [pwN_step (by rw [ih]), ih]
    show ((pw (Fz (progs r128 k zs n) (stop - n) pick false m') ((k : Int) + (n : Int)) (zs.getD n 0)).1, 3 * (n : Int) + (pw (Fz (progs r128 k zs n) (stop - n) pick false m') ((k : Int) + (n : Int)) (zs.getD n 0)).2.1, (pw (Fz (progs r128 k zs n) (stop - n) pick false m') ((k : Int) + (n : Int)) (zs.getD n 0)).2.2) = _
    have h1 : ¬ stop - (n : Int) = 1 := by omega
    rw [show (k : Int) + (n : Int) = ((k + n : Nat) : Int) by omega, pw_Fz hp (by omega), if_neg h1, decide_eq_false h1]
    show (0, 3 * (n : Int) + 3, Fz ((progs r128 k zs n).set (k + n) (bits .and .u32 ((progs r128 k zs n).getD (k + n) 0) (zs.getD n 0))) (max (stop - n - 1) 0) pick false 1) = _
    rw [progs_succ (l := r128) (k := k) (n := n) (zs := zs) (by omega), show 3 * (n : Int) + 3 = 3 * ((n + 1 : Nat) : Int) by omega, show max (stop - (n : Int) - 1) 0 = stop - ((n + 1 : Nat) : Int) by omega]
theorem part_part {v p : Int} (hv : 0 ≤ v) (hv' : v < 4294967296) (hp : 0 ≤ p) (hp' : p < 4294967296) : bits .andNot .u32 (Bt.part 4294967295 v p) (bits .or .u32 v (bits .xor .u32 4294967295 p)) = 0 := by
  have x := Bt.rng_xor (x := 4294967295) (y := p) (by decide) (by decide) hp hp'
  have o := Bt.rng_or hv hv' x.1 x.2
  have r := Bt.part_rng 4294967295 v p
  have a := Bt.rng_andNot r.1 r.2 o.1 o.2
  refine Bt.ext a.1 a.2 (by decide) (by decide) fun i h h' => ?_
  rw [Bt.tb_andNot r.1 r.2 o.1 o.2, Bt.tb_or hv hv' x.1 x.2, Bt.tb_xor (by decide) (by decide) hp hp', Bt.tb_part h h', Bt.tb_zero, Bt.tb_ones]
  have h2 : decide (i < 32) = true := decide_eq_true h'
  have h3 : decide (0 ≤ i) = true := decide_eq_true h
  rw [h2, h3]
  cases Bt.tb p i <;> cases Bt.tb v i <;> rfl
theorem turn0 {p : Int} (hp : 0 ≤ p) (hp' : p < 4294967296) : Bt.turn p 0 = p := Bt.ext (Bt.turn_rng _ _).1 (Bt.turn_rng _ _).2 hp hp' fun i h h' => by
  rw [Bt.tb_turn h h', show (i - 0) % 32 = i by omega]
theorem fuse_Fz {stop : Int} (h : 1 ≤ stop) (pick : Int) : ({ new (Nr.new 2 5) with c := Nr.fuse (Nr.new 2 5) stop pick } : Fl) = Fz r128 stop pick false 0 := by
  show (⟨⟨r128, [0, 0], 5, max stop 0, pick, false⟩, 0, 0, 0, noL, none⟩ : Fl) = _
  rw [show max stop 0 = stop by omega]; rfl
theorem stops5 {k : Nat} (hk : k < 100) {zs : List Int} (hl : zs.length ≤ 10) (hz : ∀ i : Nat, 0 ≤ zs.getD i 0 ∧ zs.getD i 0 < 4294967296) {stop : Int} (h1 : 1 ≤ stop) {pick : Int} (hp : 0 ≤ pick) (hp' : pick < 4294967296) :
    ∃ (s0 s1 : Fl) (c1 : Nr.C), Hid (new (Nr.new 2 5) = s0) ∧ Hid (Nr.fuse s0.c stop pick = c1) ∧ Hid (({ s0 with c := c1 } : Fl) = s1) ∧ s0.job = none ∧ Hid (Calm s0) ∧ Hid (Calm s1) ∧
      ((zs.length : Int) < stop → ∃ s2, Hid (pws s1 k zs = (0, 3 * (zs.length : Int), s2)) ∧ Hid ((!s2.c.off) = true)) ∧
      (stop ≤ (zs.length : Int) → ∃ s2 t z, Hid (pws s1 k zs = (4, t, s2)) ∧ (0 ≤ t ∧ t ≤ 100) ∧ Hid ((!s2.c.off) = false) ∧ Hid (s2.c.words = z) ∧ z.length = 128 ∧ Hid (∀ i : Nat, i < zs.length → ((i : Int) + 1 < stop → z.getD (k + i) 0 = zs.getD i 0) ∧ (stop < (i : Int) + 1 → z.getD (k + i) 0 = 4294967295) ∧
        ((i : Int) + 1 = stop → bits .andNot .u32 (z.getD (k + i) 0) (bits .or .u32 (zs.getD i 0) (bits .xor .u32 4294967295 pick)) = 0)) ∧ Hid (Calm s2) ∧ Hid (∀ a, wrong s2 a = 4)) := by
  have hr : r128.length = 128 := by simp [r128]
  refine ⟨_, Fz r128 stop pick false 0, _, rfl, rfl, fuse_Fz h1 pick, rfl, D_calm 5 r128 [0, 0] noL 0, Fz_calm _ _ _ _ _, fun h => ?_, fun h => ?_⟩
  · obtain ⟨m', e⟩ := pwN_Fz (stop := stop) (pick := pick) (m := 0) (k := k) (zs := zs) (by omega) zs.length (Nat.le_refl _) (by omega)
    exact ⟨_, e, rfl⟩
  · obtain ⟨n, hn⟩ : ∃ n : Nat, stop = (n : Int) + 1 := ⟨(stop - 1).toNat, by omega⟩
    obtain ⟨m', e⟩ := pwN_Fz (stop := stop) (pick := pick) (m := 0) (k := k) (zs := zs) (by omega) n (by omega) (by omega)
    have hpl : (progs r128 k zs n).length = 128 := by rw [progs_len, hr]
    have hw := hz n
    have hg : (progs r128 k zs n).getD (k + n) 0 = 4294967295 := by rw [progs_get (by omega), if_neg (by omega), r128_get (by omega)]
    have e2 : pwN (Fz r128 stop pick false 0) k zs (n + 1) = (4, 3 * (n : Int) + 3, Fz ((progs r128 k zs n).set (k + n) (Bt.part 4294967295 (zs.getD n 0) pick)) 0 pick true 1) := by
      rw [pwN_step (by rw [e]), e]
      show ((pw (Fz (progs r128 k zs n) (stop - n) pick false m') ((k : Int) + (n : Int)) (zs.getD n 0)).1, 3 * (n : Int) + (pw (Fz (progs r128 k zs n) (stop - n) pick false m') ((k : Int) + (n : Int)) (zs.getD n 0)).2.1, (pw (Fz (progs r128 k zs n) (stop - n) pick false m') ((k : Int) + (n : Int)) (zs.getD n 0)).2.2) = _
      have h2 : stop - (n : Int) = 1 := by omega
      rw [show (k : Int) + (n : Int) = ((k + n : Nat) : Int) by omega, pw_Fz hpl (by omega), if_pos h2, decide_eq_true h2, hg, Nr.and_ones hw.1 hw.2]
      show (4, 3 * (n : Int) + 3, Fz ((progs r128 k zs n).set (k + n) (Bt.part 4294967295 (zs.getD n 0) (Bt.turn pick ((0 : Nat) : Int)))) (max (stop - n - 1) 0) pick true 1) = _
      rw [show ((0 : Nat) : Int) = 0 from rfl, turn0 hp hp', show max (stop - (n : Int) - 1) 0 = 0 by omega]
    have e3 : pws (Fz r128 stop pick false 0) k zs = (4, 3 * (n : Int) + 3, Fz ((progs r128 k zs n).set (k + n) (Bt.part 4294967295 (zs.getD n 0) pick)) 0 pick true 1) := by
      have := pwN_stop (s := Fz r128 stop pick false 0) (a := k) (zs := zs) (k := n + 1) (by rw [e2]; show ¬ (4 : Int) = 0; decide) (zs.length - (n + 1))
      rw [show n + 1 + (zs.length - (n + 1)) = zs.length by omega, e2] at this
      exact this
    have hzl : ((progs r128 k zs n).set (k + n) (Bt.part 4294967295 (zs.getD n 0) pick)).length = 128 := by rw [List.length_set, hpl]
    refine ⟨_, _, _, e3, ⟨by omega, by omega⟩, rfl, Fz_words _ _ _ _ _, hzl, fun i hi => ⟨fun h => ?_, fun h => ?_, fun h => ?_⟩, Fz_calm _ _ _ _ _, fun a => Fz_dark _ _ _ _ a⟩
    · rw [Nr.getD_set, if_neg (by omega), progs_get (by omega), if_pos (by omega), r128_get (by omega), Nr.and_ones (hz _).1 (hz _).2, show k + i - k = i by omega]
    · rw [Nr.getD_set, if_neg (by omega), progs_get (by omega), if_neg (by omega), r128_get (by omega)]
    · obtain rfl : i = n := by omega
      rw [Nr.getD_set_self (by omega)]
      exact part_part hw.1 hw.2 hp hp'
end Go.Proofs.Ytfghlfolejpjjaa.Cf
