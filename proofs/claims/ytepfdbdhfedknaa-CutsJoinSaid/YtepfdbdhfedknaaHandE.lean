/- By hand: the contract of cuts.Each: what it makes is new memory, and told by a plain function. No condition. -/
import Derived.Test.YtepfdbdhfedknaaHand
namespace Go.Proofs.Ytepfdbdhfedknaa.All
open Go.RowKit Go.Proofs.YtepfdbdhfedknaaW.PrintWords Go.Proofs.YtepfdbdhfedknaaW.PrintLast Go.Proofs.YtepfdbdhfedknaaW.PrintMore
attribute [local go_sem] max2_int min2_int max_two min_two max_three min_three max_four min_four

/-! ### cuts.Each -/
/-- Pieces of so many bytes. -/
def eachP (n : Nat) : Nat → List Int → List (List Int)
  | 0, l => [l]
  | k + 1, l => if n < l.length then l.take n :: eachP n k (l.drop n) else [l]
def cuts_Each.f (l0 : List Int) (a1 : Int) : Option (List (List Int)) :=
  if l0.length < 1099511627776 then some (if l0.length = 0 then [] else if a1 < 1 then [l0] else eachP a1.toNat l0.length l0) else none
/-- Values that are rows, all as one world has them. -/
def Vals (b : Nat) (W : World) (vs : List Value) (xs : List (List Int)) : Prop :=
  xs.length = vs.length ∧ ∀ (j : Nat) (x : List Int), xs[j]? = some x → ∃ A' c', vs[j]? = some (.slice A' x.length c') ∧ x.length ≤ c' ∧ Kd.F (Kd.int .u8) W (fun k => b ≤ k) A' x.length x
theorem Vals.nil (b : Nat) (W : World) : Vals b W [] [] := ⟨rfl, fun j x h => by simp at h⟩
theorem Vals.snoc {b : Nat} {W : World} {vs : List Value} {xs : List (List Int)} (h : Vals b W vs xs) {A : Option Addr} {c : Nat} {x : List Int} (hc : x.length ≤ c) (hF : Kd.F (Kd.int .u8) W (fun k => b ≤ k) A x.length x) : Vals b W (vs ++ [.slice A x.length c]) (xs ++ [x]) := by
  refine ⟨by simp [h.1], fun j y hj => ?_⟩
  by_cases hlt : j < xs.length
  · rw [List.getElem?_append_left hlt] at hj
    obtain ⟨A', c', e, r⟩ := h.2 j y hj
    exact ⟨A', c', by rw [List.getElem?_append_left (by rw [← h.1]; exact hlt)]; exact e, r⟩
  · have hj' : j = xs.length := by
      have := (List.getElem?_eq_some_iff.1 hj).1
      simp at this
      omega
    subst hj'
    rw [List.getElem?_append_right (Nat.le_refl _)] at hj
    simp at hj
    subst hj
    exact ⟨A, c, by rw [h.1, List.getElem?_append_right (Nat.le_refl _)]; simp, hc, hF⟩
theorem Vals.V {W W1 : World} {base : Nat} {v : Value} {vs : List Value} {xs : List (List Int)} (h : Vals base W vs xs) (hb : Below W.heap.size W W1) (hR : Kd.R (Kd.raw 1) 22 W1 base (fun _ => True) v (vs.map fun x => [x])) : Kd.V (Kd.slice 5 (Kd.int .u8)) 22 W1 base (fun k => base ≤ k) v xs :=
  raw_V hR h.1 (fun W' hW j x hj => by
    obtain ⟨A', c', e, hle, hF⟩ := h.2 j x hj
    exact ⟨A', c', e, hle, (Kd.F_below hF hb) W' hW⟩)
set_option maxHeartbeats 8000000 in
set_option maxRecDepth 100000 in
theorem cuts_Each.calls (A0 : Option Addr) (c0 : Nat) (l0 : List Int) (a1 : Int) (r : List (List Int)) (w : World) (hr0 : Kd.C (Kd.int .u8) w A0 l0.length l0) (hc0 : l0.length ≤ c0) (h : cuts_Each.f l0 a1 = some r) :
    Calls Try.prog 14 #[.slice A0 l0.length c0, .int .i64 a1] w fun e w' => ∃ v0_ : Value, e = .returned v0_ ∧ Kd.V (Kd.slice 5 (Kd.int .u8)) 22 w' w.heap.size (fun k => w.heap.size ≤ k) v0_ r ∧ Below w.heap.size w w' := by
  have HR0 := Aside0.mk hr0
  have HC0 := Aside0.mk hc0
  clear hr0 hc0
  unfold cuts_Each.f at h
  by_cases h0 : l0.length < 1099511627776
  · rw [if_pos h0] at h
    obtain h := Option.some.inj h
    by_cases hz : l0.length = 0
    · rw [if_pos hz] at h
      subst h
      have z1 : ((l0.length : Int) == 0) = true := by simp [hz]
      go_enter Try.func14, Try.ntmps14
      go_wp2
      go_ret
      exact ⟨_, rfl, Kd.V_nil _ _ _ _ _, Below.refl _ _⟩
    · rw [if_neg hz] at h
      have z1 : ((l0.length : Int) == 0) = false := by simp [hz]
      by_cases h1 : a1 < 1
      · rw [if_pos h1] at h
        subst h
        have h1b : decide (a1 < 1) = true := decide_eq_true h1
        go_enter Try.func14, Try.ntmps14
        go_wp2_with (go_at_call 15; (refine (slices_Clone.calls _ _ l0 _ ?side1 ?side2 ?side3).mono ?_); (case side1 => exact HR0.out); (case side2 => exact HC0.out); (case side3 => omega); rintro e w1 ⟨v1, rfl, ho, hb⟩; obtain ⟨A2, c2, rfl, hc2, hC2⟩ := Kd.R_reads ho; have HL2 := Aside0.mk hc2; have HO1 := Aside0.mk ho; have HB1 := Aside0.mk hb; clear ho hb hc2 hC2)
        go_ret
        refine ⟨_, rfl, Vals.V (W := w1) (vs := [.slice A2 l0.length c2]) (Vals.snoc (Vals.nil _ _) HL2.out (Kd.R_F (R_young HO1.out))) (below_alloc (Below.refl _ _) _) ⟨fun _ _ => trivial, [.slice A2 l0.length c2], ⟨rfl, .inr ⟨w1.heap.size, 1, #[.slice A2 l0.length c2], rfl, below_size HB1.out, heap_alloc_new w1 _, Nat.le_refl _, by decide, rfl, rfl⟩⟩, Reps.one ⟨rfl, rfl, by simp [Value.oneCell']⟩ (Reps.none _ _)⟩, below_alloc HB1.out _⟩
      · rw [if_neg h1] at h
        have h1b : decide (a1 < 1) = false := decide_eq_false h1
        go_enter Try.func14, Try.ntmps14
        go_wp2_with (go_at_call 15; (refine (slices_Clone.calls _ _ l0 _ ?side1 ?side2 ?side3).mono ?_); (case side1 => exact HR0.out); (case side2 => exact HC0.out); (case side3 => omega); rintro e w1 ⟨v1, rfl, ho, hb⟩; obtain ⟨A2, c2, rfl, hc2, hC2⟩ := Kd.R_reads ho; have HL2 := Aside0.mk hc2; have HO1 := Aside0.mk ho; have HB1 := Aside0.mk hb; clear ho hb hc2 hC2)
        have HR := Aside0.mk h
        clear h
        have HF := Aside0.mk (Kd.R_F (R_young HO1.out))
        have ha1 : 1 ≤ a1 := by omega
        obtain ⟨n, rfl⟩ : ∃ n : Nat, a1 = n := ⟨a1.toNat, by omega⟩
        go_loopg [0, 5] l0.length (fun kq v0 v5 w' => ∃ (l : List Int) (A : Option Addr) (c : Nat) (vs : List Value) (xs : List (List Int)), v0 = .slice A l.length c ∧ l.length ≤ c ∧ l.length ≤ l0.length ∧ l.length ≤ kq + 1 ∧ vs.length + l.length ≤ l0.length + 1 ∧ Aside0 (xs ++ eachP n kq l = r) ∧ Aside0 (Vals w.heap.size w1 vs xs) ∧ Aside0 (Kd.F (Kd.int .u8) w1 (fun k => w.heap.size ≤ k) A l.length l) ∧ Aside0 (Kd.R (Kd.raw 1) 22 w' w1.heap.size (fun _ => True) v5 (vs.map fun x => [x])) ∧ Aside0 (Below w1.heap.size w1 w'))
        case atStart => exact ⟨l0, A2, c2, [], [], rfl, HL2.out, Nat.le_refl _, by omega, by simp, ⟨by simpa using HR.out⟩, ⟨Vals.nil _ _⟩, HF, ⟨Kd.R_nil _ _ _ _ _⟩, ⟨Below.refl _ _⟩⟩
        case round =>
          obtain ⟨l, A, c, vs, xs, rfl, hc, hl0, hlk, hvl, HE, HV, HFl, HX, HW⟩ := hrel
          have hE := HE.out
          by_cases hlt : n < l.length
          · have hgt : decide ((l.length : Int) > (n : Int)) = true := decide_eq_true (by omega)
            have q1 : (n : Int) ≤ (c : Int) := by omega
            have q2 : (n : Int) ≤ (l.length : Int) := by omega
            cases gk with
            | zero => omega
            | succ gk =>
              rw [eachP, if_pos hlt] at hE
              have HE' := Aside0.mk hE
              clear hE HE
              go_wp2_with ((with_reducible refine gate_builtin (b := .append) (xs := #[.tmp 19, .tmp 24]) rfl ?_); at_builtin; refine Kd.R_append (Kd.raw 1) (w0 := w1) w1.heap.size rfl (.tmp 19) (.tmp 24) 26 22 (.slice none 0 0) 24 rfl Try.underlying26 info22 rfl (by decide) (by omega) u5 (vs.map fun x => [x]) [.slice A n n] [.slice A n n] (fun _ => True) (fun _ => False) rfl rfl ?aP (fun _ hk => hk.elim) ?aF ?aO ?aB ?aS ?aL ?_; (case aP => exact ⟨rfl, rfl, by simp [Value.oneCell']⟩); (case aB => exact HW.out); (case aF => exact (fun _ _ => trivial)); (case aO => exact HX.out); (case aS => exact below_size HW.out); (case aL => simp; omega); intro v3 w3 ho hb hg hat; have HX3 := Aside0.mk ho; have HW3 := Aside0.mk hb; clear ho hb hg hat HX HW)
              have hd : (l.drop n).length = l.length - n := List.length_drop
              have htk : (l.take n).length = n := by simp; omega
              have HF2 : Aside0 (Kd.F (Kd.int .u8) w1 (fun k => w.heap.size ≤ k) (if c = n then A else A.map (·.add (n * 1))) (l.drop n).length (l.drop n)) := ⟨Kd.F_cut HFl.out (by omega) hc⟩
              have HV2 : Aside0 (Vals w.heap.size w1 (vs ++ [.slice A n n]) (xs ++ [l.take n])) := ⟨by have := Vals.snoc HV.out (c := n) (x := l.take n) (by omega) (Kd.F_take HFl.out (by omega)); rwa [htk] at this⟩
              go_roundg gk
              case measure => omega
              case rel => exact ⟨l.drop n, if c = n then A else A.map (·.add (n * 1)), c - n, vs ++ [.slice A n n], xs ++ [l.take n], by simp [hd]; omega, by omega, by omega, by omega, by simp; omega, ⟨by rw [← HE'.out]; simp⟩, HV2, HF2, ⟨by simpa using HX3.out⟩, HW3⟩
          · have hgt : decide ((l.length : Int) > (n : Int)) = false := decide_eq_false (by omega)
            have hE2 : xs ++ [l] = r := by
              rw [← hE]
              cases gk with
              | zero => rfl
              | succ gk => rw [eachP, if_neg hlt]
            clear hE HE
            go_wp2_with ((with_reducible refine gate_builtin (b := .append) (xs := #[.tmp 29, .tmp 31]) rfl ?_); at_builtin; refine Kd.R_append (Kd.raw 1) (w0 := w1) w1.heap.size rfl (.tmp 29) (.tmp 31) 26 22 (.slice none 0 0) 24 rfl Try.underlying26 info22 rfl (by decide) (by omega) u5 (vs.map fun x => [x]) [.slice A l.length c] [.slice A l.length c] (fun _ => True) (fun _ => False) rfl rfl ?aP (fun _ hk => hk.elim) ?aF ?aO ?aB ?aS ?aL ?_; (case aP => exact ⟨rfl, rfl, by simp [Value.oneCell']⟩); (case aB => exact HW.out); (case aF => exact (fun _ _ => trivial)); (case aO => exact HX.out); (case aS => exact below_size HW.out); (case aL => simp; omega); intro v3 w3 ho hb hg hat; have HX3 := Aside0.mk ho; have HW3 := Aside0.mk hb; clear ho hb hg hat HX HW)
            go_ret
            refine ⟨_, rfl, ?_, below_step HB1.out HW3.out⟩
            rw [← hE2]
            exact Vals.V (Vals.snoc HV.out hc HFl.out) HW3.out (Kd.R_lower (by simpa using HX3.out) (below_size HB1.out))
  · rw [if_neg h0] at h
    exact absurd h (by simp)
end Go.Proofs.Ytepfdbdhfedknaa.All
