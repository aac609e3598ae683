/- Segments in plain words. -/
import Derived.Test.YtbpdbibnfmdpoaaWD
import Derived.Test.YtbpdbibnfmdpoaaIB
set_option linter.unusedSimpArgs false
set_option linter.unusedSectionVars false
set_option linter.unusedVariables false
namespace Go.Mb
open Go.Sy
set_option linter.unusedVariables false

structure Seg where
  kind : Int
  ses : Int
  ser : Int
  off : Int
  tot : Int
  chk : Bool
  data : ByteArray
  claims : List Spn
instance : Inhabited Seg := ⟨⟨0, 0, 0, 0, 0, false, .empty, []⟩⟩
def Seg.cells (s : Seg) : List A := [.int .i64 s.kind, .int .i64 s.ses, .int .i64 s.ser, .int .i64 s.off, .int .i64 s.tot, .bool s.chk, .str s.data, slS s.claims]
def tMax : Int := 1099511627776
def headOK (l : List Spn) (t : Int) : Bool := l.length == 0 || (decide ((l.getD 0 default).lo ≥ 0) && decide ((l.getD (l.length - 1) default).hi ≤ t))
def insideM (l : List Spn) (t : Int) : Bool := chkS l == 0 && headOK l t
def num1 (s : Seg) : Bool := inR s.tot 1 65536 && (inR s.off 0 (s.tot - 1) && (decide (s.ser ≥ 1) == s.chk))
def num2 (s : Seg) : Bool := decide (s.ser ≥ 1) && (inR s.tot 1 65536 && s.off == 0)
def num3 (s : Seg) : Bool := s.ser == 0 && (s.tot == 0 && s.off == 0)
def numK (s : Seg) : Bool := if s.kind = 1 then num1 s else if s.kind = 2 then num2 s else num3 s
def numG (s : Seg) : Bool := inR s.ses 0 tMax && (inR s.ser 0 tMax && numK s)
def noData (s : Seg) : Bool := !s.chk && s.data.size == 0
def oth1 (s : Seg) : Bool := inR s.data.size 1 (min 16 (s.tot - s.off)) && s.claims.length == 0
def oth2 (s : Seg) : Bool := noData s && insideM s.claims s.tot
def oth3 (s : Seg) : Bool := noData s && s.claims.length == 0
def othG (s : Seg) : Bool := if s.kind = 1 then oth1 s else if s.kind = 2 then oth2 s else oth3 s
def chkG (s : Seg) : Int := if inR s.kind 1 3 then (if numG s then (if othG s then 0 else 1) else 2) else 8
theorem chkG_zero {s : Seg} : chkG s = 0 ↔ inR s.kind 1 3 = true ∧ numG s = true ∧ othG s = true := by
  unfold chkG
  split
  · rename_i h
    rw [h]
    split
    · rename_i h2
      rw [h2]
      split
      · rename_i h3; simp [h3]
      · rename_i h3; simp [h3]
    · rename_i h2; simp [h2]
  · rename_i h; simp [h]
theorem size0 (s : ByteArray) : (s.toList == (ByteArray.mk #[]).toList) = (s.size == 0) := by
  rw [toList_beq, Bool.eq_iff_iff, beq_iff_eq, beq_iff_eq, ← ls_len]
  exact ⟨fun h => by rw [h]; rfl, fun h => List.eq_nil_of_length_eq_zero h⟩
end Go.Mb
