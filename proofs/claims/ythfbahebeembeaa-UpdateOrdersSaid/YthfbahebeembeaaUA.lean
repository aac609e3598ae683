/- The data of a package. -/
import Derived.Test.YthfbahebeembeaaSyE
set_option linter.unusedSimpArgs false
set_option linter.unusedSectionVars false
set_option linter.unusedVariables false
namespace Go.Mb
open Go.Sy
set_option linter.unusedVariables false

def uC (n : Nat) : List A := [.int .u8 (n : Int)]
def slU (l : List Nat) : A := .sl 1 l.length (rowL uC l)
structure Ctc where
  fr : Int
  to : Int
  start : Int
  stop : Int
  rate : Int
  rng : Int
  loss : Int
instance : Inhabited Ctc := ⟨⟨0, 0, 0, 0, 0, 0, 0⟩⟩
def Ctc.cells (x : Ctc) : List A := [.int .i64 x.fr, .int .i64 x.to, .int .i64 x.start, .int .i64 x.stop, .int .i64 x.rate, .int .i64 x.rng, .int .i64 x.loss]
theorem renCtc (σ : Nat → Nat) (x : Ctc) : RenL σ x.cells x.cells := ⟨_, _, rfl, rfl, _, _, rfl, rfl, _, _, rfl, rfl, _, _, rfl, rfl, _, _, rfl, rfl, _, _, rfl, rfl, _, _, rfl, rfl, rfl⟩
def slCtc (l : List Ctc) : A := .sl 7 l.length (rowL Ctc.cells l)
def Ctc.eqv (a b : Ctc) : Bool := a.fr == b.fr && (a.to == b.to && (a.start == b.start && (a.stop == b.stop && (a.rate == b.rate && (a.rng == b.rng && (a.loss == b.loss && true))))))
theorem Ctc.eqv_iff {a b : Ctc} : a.eqv b = true ↔ a = b := by
  obtain ⟨_, _, _, _, _, _, _⟩ := a
  obtain ⟨_, _, _, _, _, _, _⟩ := b
  simp [Ctc.eqv, and_assoc]
theorem flatCtc (l : List Ctc) (i j : Nat) : flat 3 (rowL Ctc.cells l i j) = true := flat_getA rfl j
structure Chg where
  org : Int
  cnt : Int
  stamp : Int
  kind : Int
  c : Ctc
instance : Inhabited Chg := ⟨⟨0, 0, 0, 0, default⟩⟩
def Chg.cells (x : Chg) : List A := [.int .i64 x.org, .int .i64 x.cnt, .int .i64 x.stamp, .int .i64 x.kind, .int .i64 x.c.fr, .int .i64 x.c.to, .int .i64 x.c.start, .int .i64 x.c.stop, .int .i64 x.c.rate, .int .i64 x.c.rng, .int .i64 x.c.loss]
theorem renChg (σ : Nat → Nat) (x : Chg) : RenL σ x.cells x.cells := ⟨_, _, rfl, rfl, _, _, rfl, rfl, _, _, rfl, rfl, _, _, rfl, rfl, _, _, rfl, rfl, _, _, rfl, rfl, _, _, rfl, rfl, _, _, rfl, rfl, _, _, rfl, rfl, _, _, rfl, rfl, _, _, rfl, rfl, rfl⟩
def slChg (l : List Chg) : A := .sl 11 l.length (rowL Chg.cells l)
def Chg.eqv (a b : Chg) : Bool := a.org == b.org && (a.cnt == b.cnt && (a.stamp == b.stamp && (a.kind == b.kind && (a.c.fr == b.c.fr && (a.c.to == b.c.to && (a.c.start == b.c.start && (a.c.stop == b.c.stop && (a.c.rate == b.c.rate && (a.c.rng == b.c.rng && (a.c.loss == b.c.loss && true))))))))))
theorem Chg.eqv_iff {a b : Chg} : a.eqv b = true ↔ a = b := by
  obtain ⟨_, _, _, _, ⟨_, _, _, _, _, _, _⟩⟩ := a
  obtain ⟨_, _, _, _, ⟨_, _, _, _, _, _, _⟩⟩ := b
  simp [Chg.eqv, and_assoc]
theorem flatChg (l : List Chg) (i j : Nat) : flat 3 (rowL Chg.cells l i j) = true := flat_getA rfl j
structure His where
  nodes : Int
  l : List Chg
instance : Inhabited His := ⟨⟨0, []⟩⟩
def His.cells (x : His) : List A := [.int .i64 x.nodes, slChg x.l]
theorem renHis (σ : Nat → Nat) (x : His) : RenL σ x.cells x.cells := ⟨_, _, rfl, rfl, _, _, rfl, rfl, rfl⟩
structure Scr where
  acts : List Nat
  cts : List Ctc
instance : Inhabited Scr := ⟨⟨[], []⟩⟩
def Scr.cells (x : Scr) : List A := [slU x.acts, slCtc x.cts]
theorem renScr (σ : Nat → Nat) (x : Scr) : RenL σ x.cells x.cells := ⟨_, _, rfl, rfl, _, _, rfl, rfl, rfl⟩
end Go.Mb
