/- The tag of a string in plain words. -/
import Derived.Test.YtdhfgfkfejpfdaaGreatKS
import Derived.Test.YtdhfgfkfejpfdaaGreatVE
set_option linter.unusedSimpArgs false
set_option linter.unusedSectionVars false
set_option linter.unusedVariables false
namespace Go.Mb
open Go.Sy
set_option linter.unusedVariables false
def sip0 (key : List Nat) : Hs := ⟨wordL key ^^^ 8317987319222330741, wordL (key.drop 8) ^^^ 7237128888997146477, wordL key ^^^ 7816392313619706465, wordL (key.drop 8) ^^^ 8387220255154660723⟩
def foldW (l : List Nat) (s : Hs) : Nat → Hs
  | 0 => s
  | k + 1 => absb (foldW l s k) (wordL (l.drop (8 * k)))
def lastB (l : List Nat) : List Nat := (l.drop (8 * (l.length / 8)) ++ List.replicate (7 - l.length % 8) 0) ++ [l.length % 256]
def finS (s : Hs) : Hs := rnd (rnd (rnd (rnd ⟨s.a, s.b, s.c ^^^ 255, s.d⟩)))
def rndK (s : Hs) : Nat → Hs
  | 0 => s
  | k + 1 => rnd (rndK s k)
def hashL (key l : List Nat) : Nat :=
  let f := finS (absb (foldW l (sip0 key) (l.length / 8)) (wordL (lastB l)))
  ((f.a ^^^ f.b) ^^^ f.c) ^^^ f.d
def tagL (key l : List Nat) : List Nat := bytesN (hashL key l) 8
def tagM (key s : ByteArray) : ByteArray := bs (tagL (ls key) (ls s))
theorem drop_lt {l : List Nat} (hl : ∀ x ∈ l, x < 256) (k : Nat) : ∀ x ∈ l.drop k, x < 256 := fun x hx => hl x (List.mem_of_mem_drop hx)
theorem wordL_lt {l : List Nat} (hl : ∀ x ∈ l, x < 256) : wordL l < 2 ^ 64 := wordN_lt hl 8
theorem sip0_ok {key : List Nat} (hl : ∀ x ∈ key, x < 256) : (sip0 key).ok :=
  ⟨xor_lt (wordL_lt hl) (by decide), xor_lt (wordL_lt (drop_lt hl 8)) (by decide), xor_lt (wordL_lt hl) (by decide), xor_lt (wordL_lt (drop_lt hl 8)) (by decide)⟩
theorem rndK_ok {s : Hs} (h : s.ok) : ∀ k, (rndK s k).ok
  | 0 => h
  | k + 1 => rnd_ok (rndK_ok h k)
theorem foldW_ok {l : List Nat} (hl : ∀ x ∈ l, x < 256) {s : Hs} (h : s.ok) : ∀ k, (foldW l s k).ok
  | 0 => h
  | k + 1 => absb_ok (foldW_ok hl h k) (wordL_lt (drop_lt hl _))
theorem lastB_lt {l : List Nat} (hl : ∀ x ∈ l, x < 256) : ∀ x ∈ lastB l, x < 256 := by
  intro x hx
  unfold lastB at hx
  simp only [List.mem_append, List.mem_replicate, List.mem_singleton] at hx
  rcases hx with (h | h) | h
  · exact drop_lt hl _ x h
  · omega
  · omega
theorem lastB_len (l : List Nat) : (lastB l).length = 8 := by
  unfold lastB
  simp only [List.length_append, List.length_drop, List.length_replicate, List.length_singleton]
  omega
end Go.Mb
