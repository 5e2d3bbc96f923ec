/- Plain: texts turned round, the least length, the nearest places. No condition. -/
import Derived.Test.YtifbcboefopioaaTriL2
set_option linter.unusedVariables false
namespace Go.Proofs.Ytifbcboefopioaa.Tri
open Go.RowKit Go.Proofs.YtifbcboefopioaaW.PrintWords Go.Proofs.YtifbcboefopioaaW.PrintLast Go.Proofs.YtifbcboefopioaaW.PrintMore Go.Proofs.Ytifbcboefopioaa.Kit

def closer (old n : Int) : Int := if old = 0 then n else min old n
/-- The texts that are not empty, each turned round. -/
def TL (L : List Txt) : List Txt := (L.filter fun s => s ≠ []).map List.reverse
theorem TL_nil : TL [] = [] := rfl
theorem TL_skip (L : List Txt) : TL (L ++ [[]]) = TL L := by simp [TL]
theorem TL_snoc (L : List Txt) {s : Txt} (h : s ≠ []) : TL (L ++ [s]) = TL L ++ [s.reverse] := by simp [TL, h]
theorem TL_len (L : List Txt) : (TL L).length ≤ L.length := by
  unfold TL
  rw [List.length_map]
  exact List.length_filter_le _ _
theorem TL_mem {L : List Txt} {x : Txt} : x ∈ TL L ↔ x ≠ [] ∧ x.reverse ∈ L := by
  unfold TL
  rw [List.mem_map]
  constructor
  · rintro ⟨s, hs, rfl⟩
    rw [List.mem_filter] at hs
    exact ⟨by simpa using hs.2, by simpa using hs.1⟩
  · rintro ⟨h1, h2⟩
    exact ⟨x.reverse, List.mem_filter.2 ⟨h2, by simpa using h1⟩, by simp⟩
def leastN (T : List Txt) : Int := T.foldl (fun a t => closer a t.length) 0
theorem leastN_snoc (T : List Txt) (t : Txt) : leastN (T ++ [t]) = closer (leastN T) t.length := by simp [leastN]
/-- The nearest places, beside the first k bytes of a text. -/
def nearT (N : List Int) (t : Txt) : Nat → List Int
  | 0 => N
  | k + 1 => (nearT N t k).set (t.getD k 0).toNat (closer (rd (nearT N t k) (t.getD k 0)) ((k : Int) + 1))
theorem nearT_len (N : List Int) (t : Txt) : ∀ k, (nearT N t k).length = N.length
  | 0 => rfl
  | k + 1 => by rw [nearT, List.length_set, nearT_len N t k]
def near0 : List Int := List.replicate 256 0
def nearN (T : List Txt) : List Int := T.foldl (fun N t => nearT N t t.length) near0
theorem nearN_snoc (T : List Txt) (t : Txt) : nearN (T ++ [t]) = nearT (nearN T) t t.length := by simp [nearN]
end Go.Proofs.Ytifbcboefopioaa.Tri
