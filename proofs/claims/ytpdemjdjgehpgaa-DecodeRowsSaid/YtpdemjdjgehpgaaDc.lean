/- What words say: rows, forms, numbers. Plain law: no program. -/
import Derived.Test.YtpdemjdjgehpgaaBt
import Derived.Test.YtpdemjdjgehpgaaBtLaws
namespace Go.Proofs.Ytpdemjdjgehpgaa.Dc
open Go.Proofs.Ytpdemjdjgehpgaa.Bt
/-- A form: its mask, its registers, its sign, its pieces (at, many, to). -/
structure Frm where
  mask : Int
  d : Bool
  r1 : Bool
  r2 : Bool
  sg : Int
  ps : List (Int × Int × Int)
def frm (c : Nat) : Frm :=
  if c = 85 then ⟨127, true, false, false, 0, [(12, 20, 12)]⟩
  else if c = 74 then ⟨127, true, false, false, 21, [(31, 1, 20), (12, 8, 12), (20, 1, 11), (21, 10, 1)]⟩
  else if c = 73 then ⟨28799, true, true, false, 12, [(20, 12, 0)]⟩
  else if c = 66 then ⟨28799, false, true, true, 13, [(31, 1, 12), (7, 1, 11), (25, 6, 5), (8, 4, 1)]⟩
  else if c = 83 then ⟨28799, false, true, true, 12, [(25, 7, 5), (7, 5, 0)]⟩
  else if c = 82 then ⟨4261441663, true, true, true, 0, []⟩
  else if c = 72 then ⟨4261441663, true, true, false, 0, [(20, 5, 0)]⟩
  else if c = 65 then ⟨4160778367, true, true, true, 0, [(25, 2, 0)]⟩
  else if c = 76 then ⟨4193284223, true, true, false, 0, [(25, 2, 0)]⟩
  else if c = 70 then ⟨28799, true, true, false, 0, [(20, 12, 0)]⟩
  else if c = 69 then ⟨4294967295, false, false, false, 0, []⟩
  else if c = 86 then ⟨4261445631, false, true, true, 0, []⟩
  else ⟨28799, true, true, false, 0, [(20, 12, 0)]⟩
def letters : List Nat := [85, 74, 73, 66, 83, 82, 72, 65, 76, 70, 69, 86, 67]
/-- The rows: pattern and letter. -/
def rows : List (Int × Nat) := [(55, 85), (23, 85), (111, 74), (103, 73), (99, 66), (4195, 66), (16483, 66), (20579, 66), (24675, 66), (28771, 66), (3, 73), (4099, 73), (8195, 73), (16387, 73), (20483, 73), (35, 83), (4131, 83), (8227, 83), (19, 73), (8211, 73), (12307, 73), (16403, 73), (24595, 73), (28691, 73), (4115, 72), (20499, 72), (1073762323, 72), (51, 82), (1073741875, 82), (4147, 82), (8243, 82), (12339, 82), (16435, 82), (20531, 82), (1073762355, 82), (24627, 82), (28723, 82), (33554483, 82), (33558579, 82), (33562675, 82), (33566771, 82), (33570867, 82), (33574963, 82), (33579059, 82), (33583155, 82), (268443695, 76), (402661423, 65), (134225967, 65), (8239, 65), (536879151, 65), (1610620975, 65), (1073750063, 65), (2147491887, 65), (2684362799, 65), (3221233711, 65), (3758104623, 65), (15, 70), (115, 69), (1048691, 69), (807403635, 69), (270532723, 69), (273678451, 69), (301990003, 86), (4211, 67), (8307, 67), (12403, 67), (20595, 67), (24691, 67), (28787, 67)]
structure Op where
  name : Int
  rd : Int
  r1 : Int
  r2 : Int
  imm : Int
deriving DecidableEq
def Op.z : Op := ⟨0, 0, 0, 0, 0⟩
def numFrom : List (Int × Int × Int) → Int → Int → Int
  | [], _, n => n
  | p :: ps, w, n => numFrom ps w (put n p.2.2 p.2.1 (field w p.1 p.2.1))
def number (f : Frm) (w : Int) : Int := sign (numFrom f.ps w 0) f.sg
def opOf (f : Frm) (name w : Int) : Op := ⟨name, if f.d then field w 7 5 else 0, if f.r1 then field w 15 5 else 0, if f.r2 then field w 20 5 else 0, number f w⟩
def hit (r : Int × Nat) (w : Int) : Bool := bits .and .u32 w (frm r.2).mask == r.1
def wordFrom : List (Int × Nat) → Nat → Int → Option Op
  | [], _, _ => none
  | r :: rs, k, w => if hit r w then some (opOf (frm r.2) (k + 1 : Nat) w) else wordFrom rs (k + 1) w
def word (w : Int) : Option Op := wordFrom rows 0 w
def row (k : Nat) : Int × Nat := rows.getD k (0, 0)
def immFrom : List (Int × Int × Int) → Int → Int → Int
  | [], _, w => w
  | p :: ps, n, w => immFrom ps n (put w p.1 p.2.1 (field n p.2.2 p.2.1))
def build (f : Frm) (pat : Int) (o : Op) : Int :=
  let a := immFrom f.ps o.imm pat
  let b := if f.d then put a 7 5 (o.rd % 4294967296) else a
  let c := if f.r1 then put b 15 5 (o.r1 % 4294967296) else b
  if f.r2 then put c 20 5 (o.r2 % 4294967296) else c
def encode (o : Op) : Option Int :=
  if o.name < 1 ∨ 69 < o.name then none
  else
    let r := row (o.name - 1).toNat
    let w := build (frm r.2) r.1 o
    if word w = some o then some w else none
def writes (name : Int) : Bool := if name < 1 ∨ 69 < name then false else name != 57 && (frm (row (name - 1).toNat).2).d
theorem rows_len : rows.length = 69 := rfl
theorem row_letter (k : Nat) (h : k < 69) : (row k).2 ∈ letters := by
  have : ∀ k, k < 69 → (row k).2 ∈ letters := by decide +kernel
  exact this k h
theorem row_rng (k : Nat) (h : k < 69) : 0 ≤ (row k).1 ∧ (row k).1 < 4294967296 := by
  have : ∀ k, k < 69 → 0 ≤ (row k).1 ∧ (row k).1 < 4294967296 := by decide +kernel
  exact this k h
theorem wordFrom_drop (k : Nat) (h : k < 69) (w : Int) : wordFrom (rows.drop k) k w = if hit (row k) w then some (opOf (frm (row k).2) (k + 1 : Nat) w) else wordFrom (rows.drop (k + 1)) (k + 1) w := by
  have hk : k < rows.length := by rw [rows_len]; exact h
  rw [List.drop_eq_getElem_cons hk]
  have : row k = rows[k] := by unfold row; simp [hk]
  rw [this]; rfl
end Go.Proofs.Ytpdemjdjgehpgaa.Dc
