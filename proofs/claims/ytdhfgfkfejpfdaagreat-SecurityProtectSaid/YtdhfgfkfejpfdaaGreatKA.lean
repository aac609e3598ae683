/- The data of a package. -/
import Derived.Test.YtdhfgfkfejpfdaaGreatSyE
set_option linter.unusedSimpArgs false
set_option linter.unusedSectionVars false
set_option linter.unusedVariables false
namespace Go.Mb
open Go.Sy
set_option linter.unusedVariables false

structure Blk where
  kind : Int
  flags : Int
  data : ByteArray
instance : Inhabited Blk := ⟨⟨0, 0, .empty⟩⟩
def Blk.cells (x : Blk) : List A := [.int .i64 x.kind, .int .i64 x.flags, .str x.data]
theorem renBlk (σ : Nat → Nat) (x : Blk) : RenL σ x.cells x.cells := ⟨_, _, rfl, rfl, _, _, rfl, rfl, _, _, rfl, rfl, rfl⟩
def slBlk (l : List Blk) : A := .sl 3 l.length (rowL Blk.cells l)
def Blk.eqv (a b : Blk) : Bool := a.kind == b.kind && (a.flags == b.flags && (a.data.toList == b.data.toList && true))
theorem Blk.eqv_iff {a b : Blk} : a.eqv b = true ↔ a = b := by
  obtain ⟨_, _, _⟩ := a
  obtain ⟨_, _, _⟩ := b
  simp [Blk.eqv, ba_inj, and_assoc]
theorem flatBlk (l : List Blk) (i j : Nat) : flat 3 (rowL Blk.cells l i j) = true := flat_getA rfl j
structure Eid where
  src : Int
  cre : Int
  seq : Int
  off : Int
  tot : Int
instance : Inhabited Eid := ⟨⟨0, 0, 0, 0, 0⟩⟩
def Eid.cells (x : Eid) : List A := [.int .i64 x.src, .int .i64 x.cre, .int .i64 x.seq, .int .i64 x.off, .int .i64 x.tot]
theorem renEid (σ : Nat → Nat) (x : Eid) : RenL σ x.cells x.cells := ⟨_, _, rfl, rfl, _, _, rfl, rfl, _, _, rfl, rfl, _, _, rfl, rfl, _, _, rfl, rfl, rfl⟩
def slEid (l : List Eid) : A := .sl 5 l.length (rowL Eid.cells l)
def Eid.eqv (a b : Eid) : Bool := a.src == b.src && (a.cre == b.cre && (a.seq == b.seq && (a.off == b.off && (a.tot == b.tot && true))))
theorem Eid.eqv_iff {a b : Eid} : a.eqv b = true ↔ a = b := by
  obtain ⟨_, _, _, _, _⟩ := a
  obtain ⟨_, _, _, _, _⟩ := b
  simp [Eid.eqv, and_assoc]
theorem flatEid (l : List Eid) (i j : Nat) : flat 3 (rowL Eid.cells l i j) = true := flat_getA rfl j
structure Dst where
  kind : Int
  num : Int
instance : Inhabited Dst := ⟨⟨0, 0⟩⟩
def Dst.cells (x : Dst) : List A := [.int .i64 x.kind, .int .i64 x.num]
theorem renDst (σ : Nat → Nat) (x : Dst) : RenL σ x.cells x.cells := ⟨_, _, rfl, rfl, _, _, rfl, rfl, rfl⟩
def slDst (l : List Dst) : A := .sl 2 l.length (rowL Dst.cells l)
def Dst.eqv (a b : Dst) : Bool := a.kind == b.kind && (a.num == b.num && true)
theorem Dst.eqv_iff {a b : Dst} : a.eqv b = true ↔ a = b := by
  obtain ⟨_, _⟩ := a
  obtain ⟨_, _⟩ := b
  simp [Dst.eqv, and_assoc]
theorem flatDst (l : List Dst) (i j : Nat) : flat 3 (rowL Dst.cells l i j) = true := flat_getA rfl j
structure Bun where
  id : Eid
  dest : Dst
  life : Int
  prio : Int
  flags : Int
  l : List Blk
  pay : ByteArray
instance : Inhabited Bun := ⟨⟨default, default, 0, 0, 0, [], .empty⟩⟩
def Bun.cells (x : Bun) : List A := [.int .i64 x.id.src, .int .i64 x.id.cre, .int .i64 x.id.seq, .int .i64 x.id.off, .int .i64 x.id.tot, .int .i64 x.dest.kind, .int .i64 x.dest.num, .int .i64 x.life, .int .i64 x.prio, .int .i64 x.flags, slBlk x.l, .str x.pay]
theorem renBun (σ : Nat → Nat) (x : Bun) : RenL σ x.cells x.cells := ⟨_, _, rfl, rfl, _, _, rfl, rfl, _, _, rfl, rfl, _, _, rfl, rfl, _, _, rfl, rfl, _, _, rfl, rfl, _, _, rfl, rfl, _, _, rfl, rfl, _, _, rfl, rfl, _, _, rfl, rfl, _, _, rfl, rfl, _, _, rfl, rfl, rfl⟩
end Go.Mb
