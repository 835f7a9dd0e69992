/- Contracts of package cfi (4): a command, and Write. -/
import Derived.Test.YtfghlfolejpjjaaCfi3
import Derived.Laws.EntriesVeiled
namespace Go.Proofs.Ytfghlfolejpjjaa
open Go.RowKit Go.Maps
set_option linter.unusedVariables false
attribute [local go_sem] max2_int min2_int max_two min_two
namespace Cf
theorem Fl.ok.with_ {s : Fl} (h : s.ok) {m n e : Int} (m0 : 0 ≤ m) (m1 : m ≤ 3) (hn : n = 0 ∨ n = 64 ∨ n = 32 ∨ n = 96) (e0 : 0 ≤ e) (e1 : e < 4294967296) : ({ s with mode := m, wait := n, errs := e } : Fl).ok := ⟨m0, m1, hn, e0, e1, h.jobs⟩
theorem Fl.ok.mode_ {s : Fl} (h : s.ok) {m : Int} (m0 : 0 ≤ m) (m1 : m ≤ 3) : ({ s with mode := m } : Fl).ok := ⟨m0, m1, h.waits, h.elo, h.ehi, h.jobs⟩
theorem Fl.ok.errs_ {s : Fl} (h : s.ok) {m : Int} (m0 : 0 ≤ m) (m1 : m ≤ 3) : ({ s with mode := m, errs := 0 } : Fl).ok := ⟨m0, m1, h.waits, by show (0 : Int) ≤ 0; decide, by show (0 : Int) < 4294967296; decide, h.jobs⟩
theorem Fl.ok.wait_ {s : Fl} (h : s.ok) {m n : Int} (m0 : 0 ≤ m) (m1 : m ≤ 3) (hn : n = 0 ∨ n = 64 ∨ n = 32 ∨ n = 96) : ({ s with mode := m, wait := n } : Fl).ok := ⟨m0, m1, hn, h.elo, h.ehi, h.jobs⟩
end Cf
namespace Cfi
section
variable {w0 w : World} {S : Nat → Prop} {gf g bw be : Nat} {s : Cf.Fl}
set_option maxHeartbeats 4000000 in
theorem command_c (h : FlashX S w0 w gf g bw be s) {v : Int} (hv : 0 ≤ v) (hv' : v < 4294967296) :
    Calls Try.prog 66 #[.pointer (some ⟨gf, 0, none⟩), .int .u32 v] w fun e w' => e = .returned (.tuple #[]) ∧ FlashX S w0 w' gf g bw be (Cf.command s v) ∧ Keep (· = gf) w w' := by
  obtain ⟨mb, jp, hL, hJ, c0, c1, c2, c3, c4, c5⟩ := h.cells
  have f1 := h.free 1
  have f2 := h.free 2
  have f3 := h.free 3
  have hF := h
  have m1 : ({ s with mode := 1 } : Cf.Fl).ok := h.ok.mode_ (by decide) (by decide)
  have F1 := hF.set (s' := { s with mode := 1 }) 1 (.int .i64 1) m1 rfl rfl rfl (fun _ _ => rfl)
  have K1 := (Keep.refl (fun x => x = gf) w).setCell (p := ⟨gf, 1, none⟩) (.inl rfl) (.int .i64 1)
  obtain ⟨mb2, jp2, _, _, _, _, d2, _, _, _⟩ := F1.cells
  have g2 := F1.free 2
  by_cases k255 : v % 256 = 255
  · have HS := Lib.hid (show Cf.command s v = { s with mode := 0 } by unfold Cf.command; rw [if_pos k255])
    go_enter Try.func66, Try.ntmps66
    go_wp2
    go_end0
    exact ⟨rfl, by rw [HS.out]; exact F1.set (s' := { s with mode := 0 }) 1 _ (hF.ok.mode_ (by decide) (by decide)) rfl rfl rfl (fun _ _ => rfl), K1.setCell (p := ⟨gf, 1, none⟩) (.inl rfl) _⟩
  have j255 : (v % 256 == 255) = false := by simpa using k255
  by_cases k112 : v % 256 = 112
  · have HS := Lib.hid (show Cf.command s v = { s with mode := 1 } by unfold Cf.command; rw [if_neg k255, if_pos k112])
    clear k255
    go_enter Try.func66, Try.ntmps66
    go_wp2
    go_end0
    exact ⟨rfl, by rw [HS.out]; exact F1, K1⟩
  have j112 : (v % 256 == 112) = false := by simpa using k112
  by_cases k144 : v % 256 = 144
  · have HS := Lib.hid (show Cf.command s v = { s with mode := 2 } by unfold Cf.command; rw [if_neg k255, if_neg k112, if_pos k144])
    clear k255 k112
    go_enter Try.func66, Try.ntmps66
    go_wp2
    go_end0
    exact ⟨rfl, by rw [HS.out]; exact F1.set (s' := { s with mode := 2 }) 1 _ (hF.ok.mode_ (by decide) (by decide)) rfl rfl rfl (fun _ _ => rfl), K1.setCell (p := ⟨gf, 1, none⟩) (.inl rfl) _⟩
  have j144 : (v % 256 == 144) = false := by simpa using k144
  by_cases k152 : v % 256 = 152
  · have HS := Lib.hid (show Cf.command s v = { s with mode := 3 } by unfold Cf.command; rw [if_neg k255, if_neg k112, if_neg k144, if_pos k152])
    clear k255 k112 k144
    go_enter Try.func66, Try.ntmps66
    go_wp2
    go_end0
    exact ⟨rfl, by rw [HS.out]; exact F1.set (s' := { s with mode := 3 }) 1 _ (hF.ok.mode_ (by decide) (by decide)) rfl rfl rfl (fun _ _ => rfl), K1.setCell (p := ⟨gf, 1, none⟩) (.inl rfl) _⟩
  have j152 : (v % 256 == 152) = false := by simpa using k152
  by_cases k80 : v % 256 = 80
  · have HS := Lib.hid (show Cf.command s v = { s with mode := 1, errs := 0 } by unfold Cf.command; rw [if_neg k255, if_neg k112, if_neg k144, if_neg k152, if_pos k80])
    clear k255 k112 k144 k152
    go_enter Try.func66, Try.ntmps66
    go_wp2
    go_end0
    exact ⟨rfl, by rw [HS.out]; exact F1.set (s' := { s with mode := 1, errs := 0 }) 3 _ (hF.ok.errs_ (by decide) (by decide)) rfl rfl rfl (fun _ _ => rfl), K1.setCell (p := ⟨gf, 3, none⟩) (.inl rfl) _⟩
  have j80 : (v % 256 == 80) = false := by simpa using k80
  by_cases k64 : v % 256 = 64
  · have HS := Lib.hid (show Cf.command s v = { s with mode := 1, wait := 64 } by unfold Cf.command; rw [if_neg k255, if_neg k112, if_neg k144, if_neg k152, if_neg k80, if_pos k64])
    clear k255 k112 k144 k152 k80
    go_enter Try.func66, Try.ntmps66
    go_wp2
    go_end0
    exact ⟨rfl, by rw [HS.out]; exact F1.set (s' := { s with mode := 1, wait := 64 }) 2 _ (hF.ok.wait_ (by decide) (by decide) (by decide)) rfl rfl rfl (fun _ _ => rfl), K1.setCell (p := ⟨gf, 2, none⟩) (.inl rfl) _⟩
  have j64 : (v % 256 == 64) = false := by simpa using k64
  by_cases k32 : v % 256 = 32
  · have HS := Lib.hid (show Cf.command s v = { s with mode := 1, wait := 32 } by unfold Cf.command; rw [if_neg k255, if_neg k112, if_neg k144, if_neg k152, if_neg k80, if_neg k64, if_pos k32])
    clear k255 k112 k144 k152 k80 k64
    go_enter Try.func66, Try.ntmps66
    go_wp2
    go_end0
    exact ⟨rfl, by rw [HS.out]; exact F1.set (s' := { s with mode := 1, wait := 32 }) 2 _ (hF.ok.wait_ (by decide) (by decide) (by decide)) rfl rfl rfl (fun _ _ => rfl), K1.setCell (p := ⟨gf, 2, none⟩) (.inl rfl) _⟩
  have j32 : (v % 256 == 32) = false := by simpa using k32
  by_cases k96 : v % 256 = 96
  · have HS := Lib.hid (show Cf.command s v = { s with mode := 1, wait := 96 } by unfold Cf.command; rw [if_neg k255, if_neg k112, if_neg k144, if_neg k152, if_neg k80, if_neg k64, if_neg k32, if_pos k96])
    clear k255 k112 k144 k152 k80 k64 k32
    go_enter Try.func66, Try.ntmps66
    go_wp2
    go_end0
    exact ⟨rfl, by rw [HS.out]; exact F1.set (s' := { s with mode := 1, wait := 96 }) 2 _ (hF.ok.wait_ (by decide) (by decide) (by decide)) rfl rfl rfl (fun _ _ => rfl), K1.setCell (p := ⟨gf, 2, none⟩) (.inl rfl) _⟩
  have j96 : (v % 256 == 96) = false := by simpa using k96
  have HS := Lib.hid (show Cf.command s v = Cf.setE { s with mode := 1 } 48 by unfold Cf.command; rw [if_neg k255, if_neg k112, if_neg k144, if_neg k152, if_neg k80, if_neg k64, if_neg k32, if_neg k96])
  clear k255 k112 k144 k152 k80 k64 k32 k96
  go_enter Try.func66, Try.ntmps66
  go_wp2_with (go_at_call 67; refine (set_c F1 (b := 48) (by decide) (by decide)).mono ?_; rintro e w' ⟨rfl, p1, p2⟩)
  go_end0
  exact ⟨rfl, by rw [HS.out]; exact p1, K1.trans p2⟩
end
end Cfi
end Go.Proofs.Ytfghlfolejpjjaa
