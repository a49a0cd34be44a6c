/-
  The page file, plainly: what its calls come to on a disk. No program in sight.
-/
import Derived.Test.YtngddhoolijimaaGreatDoorDk
namespace Go.Proofs.YtngddhoolijimaaGreatDoor
open Go.RowKit

/-- A word in four bytes, the most significant one first. -/
def four (x : Nat) : List UInt8 := [UInt8.ofNat (x / 16777216), UInt8.ofNat (x / 65536), UInt8.ofNat (x / 256), UInt8.ofNat x]
theorem four_len (x : Nat) : (four x).length = 4 := rfl

/-- The word at the beginning of some bytes. -/
def wordAt (b : List UInt8) : Nat := (b.getD 0 0).toNat * 16777216 + (b.getD 1 0).toNat * 65536 + (b.getD 2 0).toNat * 256 + (b.getD 3 0).toNat

theorem wordAt_lt (b : List UInt8) : wordAt b < 4294967296 := by
  unfold wordAt
  have h0 := (b.getD 0 0).toNat_lt
  have h1 := (b.getD 1 0).toNat_lt
  have h2 := (b.getD 2 0).toNat_lt
  have h3 := (b.getD 3 0).toNat_lt
  omega

theorem word_four {x : Nat} (h : x < 4294967296) (r : List UInt8) : wordAt (four x ++ r) = x := by
  simp [wordAt, four]
  omega

def headMask : Nat := 2779096485

def headOf (n : Nat) : List UInt8 := [65, 78, 80, 70] ++ four n ++ four (n ^^^ headMask)
theorem headOf_len (n : Nat) : (headOf n).length = 12 := rfl

/-- How many logical pages a disk of so many pages has. -/
def capN (pages : Nat) : Nat := if pages < 7 then 0 else (min pages 4096 - 4) / 3

structure PF where
  n : Nat
  failed : Bool

/-- One after the other, up to the first error. -/
def thn (r : DK × Int) (k : DK → DK × Int) : DK × Int := if r.2 = 0 then k r.1 else r

/-- Pages written, then made stable. -/
def DK.writes (d : DK) : List (Int × List UInt8) → DK × Int
  | [] => d.sync
  | x :: l => thn (d.write x.1 x.2) fun d => d.writes l

def DK.erase (d : DK) (l : List Int) : DK × Int := d.writes (l.map fun i => (i, []))

def journalOf (n k : Nat) : List Int := (List.range k).map fun i => ((n + i : Nat) : Int)

def DK.finish (d : DK) (n : Nat) (ws : List (Int × List UInt8)) : DK × Int :=
  thn (d.writes ws) fun d => thn (d.erase [((2 * n : Nat) : Int)]) fun d => d.erase (journalOf n ws.length)

/-- What commit writes into the journal. -/
def entries (n : Nat) (ws : List (Int × List UInt8)) : List (Int × List UInt8) := ws.mapIdx fun i x => (((n + i : Nat) : Int), four x.1.toNat ++ x.2)

def DK.commit (d : DK) (n : Nat) (ws : List (Int × List UInt8)) : DK × Int :=
  thn (d.writes (entries n ws)) fun d => d.writes [(((2 * n : Nat) : Int), headOf ws.length)]

def committed (n : Nat) (head : List UInt8) : Nat :=
  if wordAt (head.drop 4) < 1 ∨ n < wordAt (head.drop 4) ∨ head.take 12 ≠ headOf (wordAt (head.drop 4)) then 0 else wordAt (head.drop 4)

theorem committed_le (n : Nat) (head : List UInt8) : committed n head ≤ n := by unfold committed; split <;> omega

/-- Whether a page holds nothing but zeros. -/
def blank (p : List UInt8) : Bool := p.all (· == 0)

/-- The numbers of the pages that hold more than zeros. -/
def dirty (first : Nat) (ps : List (List UInt8)) : List Int := ((List.range ps.length).filter fun i => !blank (ps.getD i [])).map fun i => ((first + i : Nat) : Int)

def DK.journal (d : DK) (n : Nat) : List Page := (List.range n).map fun i => d.get (n + i)
theorem DK.journal_len (d : DK) (n : Nat) : (d.journal n).length = n := by simp [DK.journal]

/-- The writes that a committed journal holds. -/
def logged (ps : List Page) : List (Int × List UInt8) := ps.map fun p => ((wordAt p : Int), (p.drop 4).take 100)

/-- Nothing to erase is no call of the disk. -/
def DK.clean (d : DK) (l : List Int) : DK × Int := if l = [] then (d, 0) else d.erase l

def DK.recover (d : DK) (n : Nat) : DK × Int :=
  if 0 < committed n (d.get (2 * n)) then
    thn (d.finish n (logged ((d.journal n).take (committed n (d.get (2 * n)))))) fun d' => d'.clean (dirty (n + committed n (d.get (2 * n))) ((d.journal n).drop (committed n (d.get (2 * n))) ++ [[]]))
  else d.clean (dirty n (d.journal n ++ [d.get (2 * n)]))

/-- What Open leaves of a disk that is up. -/
def DK.opens (d : DK) : DK × Int := if d.down then (d, 13) else if 0 < capN d.st.length then (if (d.recover (capN d.st.length)).2 = 0 then d.recover (capN d.st.length) else ((d.recover (capN d.st.length)).1, 13)) else (d, 0)

/-- What one write asks for: the page's number and data that fit. -/
def wrong (n : Nat) (x : Int × List UInt8) : Int := if x.1 < 0 ∨ (n : Int) ≤ x.1 then 10 else if 100 < x.2.length then 4 else 0

/-- The first error among some writes. -/
def wrongs (n : Nat) (l : List (Int × List UInt8)) : Int := (l.map (wrong n)).foldr (fun e r => if e = 0 then r else e) 0

/-- Data filled up to a payload. -/
def fill (d : List UInt8) : List UInt8 := d ++ List.replicate (100 - d.length) 0

/-- The last write of a page. -/
def lastOf (l : List (Int × List UInt8)) (i : Nat) : Option (List UInt8) := l.foldl (fun o x => if x.1 = (i : Int) then some (fill x.2) else o) none

/-- The last write of each page, by ascending numbers. -/
def effect (n : Nat) (l : List (Int × List UInt8)) : List (Int × List UInt8) := (List.range n).filterMap fun i => (lastOf l i).map fun p => ((i : Int), p)

def PF.down (f : PF) (d : DK) : Bool := f.failed || d.down

/-- Write, on a file that is whole and whose writes are right. -/
def DK.pages (d : DK) (n : Nat) (l : List (Int × List UInt8)) : DK × Int :=
  if effect n l = [] then (d, 0) else thn (d.commit n (effect n l)) fun d => d.finish n (effect n l)

/-- Write. -/
def pfWrite (f : PF) (d : DK) (l : List (Int × List UInt8)) : PF × DK × Int :=
  if f.down d then ({ f with failed := true }, d, 13)
  else if wrongs f.n l ≠ 0 then (f, d, wrongs f.n l)
  else if (d.pages f.n l).2 = 0 then (f, d.pages f.n l) else ({ f with failed := true }, (d.pages f.n l).1, 13)

/-- Read. -/
def pfErr (f : PF) (d : DK) (i : Int) : Int := if f.down d then 13 else if i < 0 ∨ (f.n : Int) ≤ i then 10 else 0

end Go.Proofs.YtngddhoolijimaaGreatDoor
