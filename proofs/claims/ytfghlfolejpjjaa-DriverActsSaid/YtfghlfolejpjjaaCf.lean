/- A flash behind commands: what each call makes of it. Plain law: no program. -/
import Derived.Test.YtfghlfolejpjjaaNrLaws
namespace Go.Proofs.Ytfghlfolejpjjaa.Cf
open Go.RowKit
set_option linter.unusedVariables false
/-- Something that takes time: ticks that are left, whether it programs, its place (or block), its value. -/
structure Jb where
  left : Int
  isp : Bool
  at_ : Int
  v : Int
/-- The chip; what is read; the command that came; errors; blocks that are locked; the job. -/
structure Fl where
  c : Nr.C
  mode : Int
  wait : Int
  errs : Int
  locks : Int → Bool
  job : Option Jb
structure Jb.ok (c : Nr.C) (j : Jb) : Prop where
  lo : 0 ≤ j.left
  hi : j.left ≤ 20
  vlo : 0 ≤ j.v
  vhi : j.v < 4294967296
structure Fl.ok (s : Fl) : Prop where
  mlo : 0 ≤ s.mode
  mhi : s.mode ≤ 3
  waits : s.wait = 0 ∨ s.wait = 64 ∨ s.wait = 32 ∨ s.wait = 96
  elo : 0 ≤ s.errs
  ehi : s.errs < 4294967296
  jobs : ∀ j, s.job = some j → j.ok s.c
def new (c : Nr.C) : Fl := ⟨c, 0, 0, 0, fun _ => false, none⟩
def setE (s : Fl) (b : Int) : Fl := { s with errs := bits .or .u32 s.errs b }
def wrong (s : Fl) (at_ : Int) : Int := Nr.wrong s.c at_ ((s.c.wear.length : Int) * 64)
def status (s : Fl) : Int := match s.job with | none => bits .or .u32 s.errs 128 | some _ => s.errs
def prog1 (s : Fl) (at_ v : Int) : Fl := if s.locks (at_ / 64) then setE s 18 else { s with job := some ⟨3, true, at_, v⟩ }
def eras1 (s : Fl) (at_ v : Int) : Fl := if v % 256 = 208 then (if s.locks (at_ / 64) then setE s 34 else { s with job := some ⟨20, false, at_ / 64, 0⟩ }) else setE s 48
def upd (L : Int → Bool) (k : Int) (b : Bool) : Int → Bool := fun x => if x = k then b else L x
def lock1 (s : Fl) (at_ v : Int) : Fl := if v % 256 = 1 then { s with locks := upd s.locks (at_ / 64) true } else if v % 256 = 208 then { s with locks := upd s.locks (at_ / 64) false } else setE s 48
def command (s : Fl) (v : Int) : Fl :=
  if v % 256 = 255 then { s with mode := 0 } else if v % 256 = 112 then { s with mode := 1 } else if v % 256 = 144 then { s with mode := 2 } else if v % 256 = 152 then { s with mode := 3 } else
  if v % 256 = 80 then { s with mode := 1, errs := 0 } else if v % 256 = 64 then { s with mode := 1, wait := 64 } else if v % 256 = 32 then { s with mode := 1, wait := 32 } else if v % 256 = 96 then { s with mode := 1, wait := 96 } else setE { s with mode := 1 } 48
def waited (s : Fl) (at_ v : Int) : Fl := if s.wait = 64 then prog1 { s with wait := 0, mode := 1 } at_ v else if s.wait = 32 then eras1 { s with wait := 0, mode := 1 } at_ v else lock1 { s with wait := 0, mode := 1 } at_ v
def write (s : Fl) (at_ v : Int) : Int × Fl := if wrong s at_ = 0 then (0, match s.job with | some _ => s | none => if s.wait = 0 then command s v else waited s at_ v) else (wrong s at_, s)
def ids (s : Fl) (at_ : Int) : Int := if at_ % 64 = 0 then 137 else if at_ % 64 = 1 then 24 else if at_ % 64 = 2 then (if s.locks (at_ / 64) then 1 else 0) else 0
def ask (s : Fl) (at_ : Int) : Int := if at_ = 16 then 81 else if at_ = 17 then 82 else if at_ = 18 then 89 else if at_ = 44 then (s.c.wear.length : Int) else 0
def read (s : Fl) (at_ : Int) : Int × Int := if wrong s at_ = 0 then (match s.job with | some _ => status s | none => if s.mode = 0 then s.c.words.getD at_.toNat 0 else if s.mode = 2 then ids s at_ else if s.mode = 3 then ask s at_ else status s, 0) else (0, wrong s at_)
/-- What a job makes of the chip. -/
def does (c : Nr.C) (j : Jb) : Int × Nr.C := if j.isp then Nr.programs c j.at_ j.v else Nr.erases c j.at_
def tick (s : Fl) (n : Int) : Int × Fl :=
  if wrong s 0 = 0 then if n < 0 then (2, s) else match s.job with
    | none => (0, s)
    | some j => if n < j.left then (0, { s with job := some { j with left := j.left - n } }) else
      if (does s.c j).1 = 5 then (0, setE { s with c := (does s.c j).2, job := none } 32) else ((does s.c j).1, { s with c := (does s.c j).2, job := none })
  else (wrong s 0, s)
def reset (s : Fl) : Fl := new s.c

theorem or_rng {a b : Int} (ha : 0 ≤ a) (ha' : a < 4294967296) (hb : 0 ≤ b) (hb' : b < 4294967296) : 0 ≤ bits .or .u32 a b ∧ bits .or .u32 a b < 4294967296 := Bt.rng_or ha ha' hb hb'
theorem new_ok (c : Nr.C) : (new c).ok := ⟨by show (0 : Int) ≤ 0; decide, by show (0 : Int) ≤ 3; decide, .inl rfl, by show (0 : Int) ≤ 0; decide, by show (0 : Int) < 4294967296; decide, fun j h => by cases h⟩
theorem setE_ok {s : Fl} (h : s.ok) {b : Int} (hb : 0 ≤ b) (hb' : b < 4294967296) : (setE s b).ok := ⟨h.mlo, h.mhi, h.waits, (or_rng h.elo h.ehi hb hb').1, (or_rng h.elo h.ehi hb hb').2, h.jobs⟩
end Go.Proofs.Ytfghlfolejpjjaa.Cf
