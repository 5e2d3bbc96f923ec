/- 'CutsEach': whatever the text and the number: the pieces make the text, none is empty; all have so many bytes, but the last one perhaps. No condition. -/
import Derived.Test.YtepfdbdhfedknaaRunsA
import Derived.Test.YtepfdbdhfedknaaAllx4
namespace Go.Proofs.Ytepfdbdhfedknaa.Pure
open Go.RowKit Go.Proofs.YtepfdbdhfedknaaW.PrintWords Go.Proofs.YtepfdbdhfedknaaW.PrintMore Go.Proofs.Ytepfdbdhfedknaa.Kit Go.Proofs.Ytepfdbdhfedknaa.All Go.Proofs.Ytepfdbdhfedknaa.Runs
/-- What is promised of pieces, one behind the other (of n bytes, if n is any). -/
def Good (n : Int) : List (List Int) → Prop
  | [] => True
  | x :: xs => x.length ≠ 0 ∧ (n ≥ 1 → (x.length : Int) ≤ n ∧ (xs ≠ [] → (x.length : Int) = n)) ∧ Good n xs
theorem each_good (n : Nat) (hn : 1 ≤ n) : ∀ (k : Nat) (l : List Int), l.length ≤ k → l.length ≠ 0 → Good n (eachP n k l) ∧ (eachP n k l).flatten = l ∧ (eachP n k l).length ≤ l.length
  | 0, l, h, h0 => by omega
  | k + 1, l, h, h0 => by
    unfold eachP
    by_cases c : n < l.length
    · rw [if_pos c]
      obtain ⟨g, f, m⟩ := each_good n hn k (l.drop n) (by simp; omega) (by simp; omega)
      have ht : (l.take n).length = n := by simp; omega
      refine ⟨⟨by omega, fun _ => ⟨by omega, fun _ => by omega⟩, g⟩, by simp [f], by simp at m ⊢; omega⟩
    · rw [if_neg c]
      exact ⟨⟨h0, fun _ => ⟨by omega, fun h => absurd rfl h⟩, trivial⟩, by simp, by simp; omega⟩
theorem rounds (l : List Int) (n : Int) (xs : List (List Int)) (hx : xs.length ≤ 600) (hl : l.length ≤ 600) (h1 : n ≥ 1 ∨ xs.length ≤ 1) : ∀ (m i : Nat) (acc : List Int), m = xs.length - i → i ≤ xs.length → Good n (xs.drop i) → acc ++ (xs.drop i).flatten = l →
    Ev (fun k => seinelaw19_CutsEach.l0 k l n xs (strOfNums acc) (i : Int)) true := by
  intro m
  induction m with
  | zero =>
    intro i acc hm hi hg hf
    refine Ev.step (fun k => by rw [seinelaw19_CutsEach.l0]) ?_
    refine Ev.neg (by omega) ?_
    rw [List.drop_of_length_le (by omega)] at hf
    simp at hf
    refine Ev.pos (by rw [hf]) ?_
    by_cases c : n ≥ 1
    · exact Ev.pos c (Ev.now _)
    · refine Ev.neg c ?_
      exact Ev.ret (decide_eq_true (by omega))
  | succ m ih =>
    intro i acc hm hi hg hf
    have hlt : i < xs.length := by omega
    refine Ev.step (fun k => by rw [seinelaw19_CutsEach.l0]) ?_
    refine Ev.pos (by omega) ?_
    refine Ev.pos (by omega) ?_
    rw [List.drop_eq_getElem_cons hlt] at hg hf
    have er : rd_L1 xs (i : Int) = xs[i] := by simp [rd_L1, List.getD_eq_getElem?_getD, hlt]
    rw [er]
    obtain ⟨x, ex⟩ : ∃ x, x = xs[i] := ⟨_, rfl⟩
    rw [← ex] at hg hf ⊢
    obtain ⟨g1, g2, g3⟩ := hg
    simp only [List.flatten_cons] at hf
    have hlen : acc.length + x.length ≤ 600 := by have := congrArg List.length hf; simp at this; omega
    have nx := ih (i + 1) (acc ++ x) (by omega) (by omega) g3 (by simpa using hf)
    have nx' : Ev (fun k => if (strOfNums acc).size + (strOfNums x).size ≤ 9223372036854775807 then seinelaw19_CutsEach.l0 k l n xs (strOfNums acc ++ strOfNums x) (wrap64 ((i : Int) + 1)) else none) true := by
      refine Ev.pos (by rw [size_str, size_str]; omega) ?_
      rw [append_str, next_nat i (by omega)]
      exact nx
    refine Ev.neg (by omega) ?_
    by_cases c : n ≥ 1
    · refine Ev.pos c ?_
      obtain ⟨q1, q2⟩ := g2 c
      refine Ev.neg (by omega) ?_
      rw [wrap_id (by omega) (by omega)]
      by_cases c2 : (i : Int) < (xs.length : Int) - 1
      · refine Ev.pos c2 ?_
        refine Ev.pos (q2 (fun h => ?_)) nx'
        have := congrArg List.length h
        simp at this
        omega
      · exact Ev.neg c2 nx'
    · exact Ev.neg c nx'
theorem CutsEach : seinelaw19_CutsEach.Pure := by
  intro l n hm hs hwf hwn
  refine Ev.rounds (?_ : Ev (fun k => seinelaw19_CutsEach.f k l n) true)
  unfold seinelaw19_CutsEach.f
  refine Ev.bind awake19 ?_
  refine Ev.pos rfl ?_
  by_cases hl : (l.length : Int) > 600
  · exact Ev.pos hl (Ev.now _)
  · refine Ev.neg hl ?_
    have key : ∀ xs : List (List Int), cuts_Each.f l n = some xs → xs.length ≤ 600 → (n ≥ 1 ∨ xs.length ≤ 1) → Good n xs → xs.flatten = l → Ev (fun k => (cuts_Each.f l n).bind fun t184 => seinelaw19_CutsEach.l0 k l n t184 (⟨#[]⟩ : ByteArray) 0) true := by
      intro xs h1 h2 h3 h4 h5
      refine Ev.bindc h1 ?_
      exact rounds l n xs h2 (by omega) h3 _ 0 [] rfl (Nat.zero_le _) (by simpa using h4) (by simpa using h5)
    by_cases h0 : l.length = 0
    · refine key [] ?_ (by simp) (Or.inr (by simp)) trivial ?_
      · unfold cuts_Each.f
        rw [if_pos (by omega), if_pos h0]
      · rw [List.eq_nil_of_length_eq_zero h0]; rfl
    · by_cases h1 : n < 1
      · refine key [l] ?_ (by simp) (Or.inr (by simp)) ⟨h0, fun h => by omega, trivial⟩ (by simp)
        unfold cuts_Each.f
        rw [if_pos (by omega), if_neg h0, if_pos h1]
      · obtain ⟨m, rfl⟩ : ∃ m : Nat, n = m := ⟨n.toNat, by omega⟩
        obtain ⟨g, f, q⟩ := each_good m (by omega) l.length l (Nat.le_refl _) h0
        refine key (eachP m l.length l) ?_ (by omega) (Or.inl (by omega)) g f
        unfold cuts_Each.f
        rw [if_pos (by omega), if_neg h0, if_neg h1]
        rfl
end Go.Proofs.Ytepfdbdhfedknaa.Pure
