/- Contracts of package decode: numbers. -/
import Derived.Test.YtpdemjdjgehpgaaDsh
import Derived.Deep.QuietTactic
import Derived.BigQuiet
import Derived.Deep.RegionWith
namespace Go.Proofs.Ytpdemjdjgehpgaa
open Go.RowKit Dc
set_option linter.unusedVariables false
theorem Below.drewN' {B : Nat} {a w : World} (h : Below B a w) (n : Nat) : Below B a (w.drewN n) := ⟨h.os, h.tape, h.output, h.size, h.block⟩
namespace Dec
set_option maxHeartbeats 2000000 in
set_option maxRecDepth 100000 in
theorem number_c (f : Frm) (a : Option Addr) (n cap : Nat) (x : Int) (w : World) (hx : 0 ≤ x) (hx' : x < 4294967296) (hn : n ≤ 4) (hp : Ps w a n f.ps) :
    Calls Try.prog 34 #[fv f a n cap, .int .u32 x] w fun e w' => e = .returned (.int .u32 (number f x)) ∧ Below w.heap.size w w' := by
  obtain ⟨rv, hrv⟩ : ∃ rv, Hid (Bt.sign (numFrom f.ps x 0) f.sg = rv) := ⟨_, rfl⟩
  unfold fv number
  rw [hrv.out]
  generalize fstr f.d f.r1 f.r2 = z at *
  have hlen := hp.len
  have hn2 : (n : Int) ≤ 4 := by omega
  obtain ⟨W1, hW1⟩ : ∃ W1, W1 = w.alloc (.cells #[.int .u32 f.mask, .string z, .int .i64 f.sg, .slice a n cap] 51) := ⟨_, rfl⟩
  have hB : Below w.heap.size w W1 := hW1 ▸ below_al (Below.refl _ _) _
  have hp1 : Ps W1 a n f.ps := hp.below hB
  have hs : ∀ W, Below W1.heap.size W1 W → W.cell? ⟨w.heap.size, 2, none⟩ = some (.int .i64 f.sg) := fun W b => below_cell b (by rw [hW1]; go_simp)
  go_enter Try.func34, Try.ntmps34
  go_wp2
  rw [← hW1]
  go_loopw [4, 10] (fun nv iv wr => ∃ (j : Nat) (nn : Int), j ≤ n ∧ iv = .int .i64 j ∧ nv = .int .u32 nn ∧ 0 ≤ nn ∧ nn < 4294967296 ∧ Below W1.heap.size W1 wr ∧ Hid (numFrom (f.ps.drop j) x nn = numFrom f.ps x 0)) (fun _ i _ => n - (intOf i).toNat)
  case atStart => exact ⟨0, 0, Nat.zero_le _, rfl, rfl, by omega, by omega, Below.refl _ _, rfl⟩
  case round =>
    obtain ⟨j, nn, hj, rfl, rfl, hnn, hnn', hBB, hE⟩ := hrel
    by_cases hlt : j < n
    · have hlt2 : (j : Int) < (n : Int) := by omega
      rcases (hp1.below hBB).is with ⟨rfl, h0⟩ | ⟨b, rfl, hc⟩
      · omega
      obtain ⟨c0, c1, c2⟩ := hc j hlt
      have hd : f.ps.drop j = f.ps.getD j (0, 0, 0) :: f.ps.drop (j + 1) := by
        rw [List.drop_eq_getElem_cons (by omega)]; congr 1; simp [List.getD, List.getElem?_eq_getElem (show j < f.ps.length by omega)]
      have hE2 := hE.out
      rw [hd] at hE2
      clear hE hd hc
      generalize f.ps.getD j (0, 0, 0) = q at *
      obtain ⟨qa, qm, qt⟩ := q
      simp only [numFrom] at hE2 c0 c1 c2
      obtain ⟨fl, hfl⟩ : ∃ fl, Hid (Bt.field x qa qm = fl) := ⟨_, rfl⟩
      have fr := Bt.field_rng x qa qm
      rw [hfl.out] at hE2 fr
      obtain ⟨pt, hpt⟩ : ∃ pt, Hid (Bt.put nn qt qm fl = pt) := ⟨_, rfl⟩
      have pr := Bt.put_rng nn qt qm fl
      rw [hpt.out] at hE2 pr
      have hE3 := Lib.hid hE2
      clear hE2
      have FC : ∀ W, Calls Try.prog 29 #[.int .u32 x, .int .i64 qa, .int .i64 qm] W fun e w' => e = .returned (.int .u32 fl) ∧ W = w' := fun W => hfl.out ▸ Bits.field_c x qa qm W hx hx'
      have PC : ∀ W, Calls Try.prog 28 #[.int .u32 nn, .int .i64 qt, .int .i64 qm, .int .u32 fl] W fun e w' => e = .returned (.int .u32 pt) ∧ ∃ n, w' = W.drewN n := fun W => hpt.out ▸ Bits.put_c nn qt qm fl W hnn hnn' fr.1 fr.2
      go_wp2
      go_quiet (first | (go_at_call 29; first | exact quiet_add_is (FC _) | exact quiet_is (FC _)) | (go_at_call 28; first | exact quiet_add (PC _) | exact Calls.quiet_of (PC _)))
      go_wp2
      go_roundw
      case rel => exact ⟨j + 1, pt, by omega, by go_num, rfl, pr.1, pr.2, Go.Proofs.Ytpdemjdjgehpgaa.Below.drewN' (below_al hBB _) _, hE3⟩
      case measure => simp [intOf]; omega
    · obtain rfl : j = n := by omega
      have e0 : f.ps.drop j = [] := List.drop_eq_nil_of_le (by omega)
      have hE2 := hE.out
      rw [e0] at hE2
      simp only [numFrom] at hE2
      have hlt2 : ¬ (j : Int) < (j : Int) := by omega
      have hs2 := hs _ hBB
      have SC : ∀ W, Calls Try.prog 42 #[.int .u32 nn, .int .i64 f.sg] W fun e w' => e = .returned (.int .u32 rv) ∧ W = w' := fun W => by
        have e3 : Bt.sign nn f.sg = rv := by rw [hE2]; exact hrv.out
        have := Bits.sign_c nn f.sg W hnn hnn'
        rw [e3] at this
        exact this
      clear hE hE2
      go_wp2_with (go_at_call 42; refine (SC _).mono ?_; rintro e w' ⟨rfl, rfl⟩)
      go_ret
      exact ⟨rfl, Below.then hB hBB⟩
theorem number_rng (f : Frm) (x : Int) : 0 ≤ number f x ∧ number f x < 4294967296 := by
  have h : ∀ (ps : List (Int × Int × Int)) (n : Int), 0 ≤ n → n < 4294967296 → 0 ≤ numFrom ps x n ∧ numFrom ps x n < 4294967296 := by
    intro ps
    induction ps with
    | nil => exact fun n h h' => ⟨h, h'⟩
    | cons p ps ih => exact fun n _ _ => ih _ (Bt.put_rng _ _ _ _).1 (Bt.put_rng _ _ _ _).2
  have h2 := h f.ps 0 (by omega) (by omega)
  exact Bt.sign_rng h2.1 h2.2
end Dec
end Go.Proofs.Ytpdemjdjgehpgaa
