/- 'SuffixPeriods': whatever the text: its borders and its least period are as the law asks; the law answers true. No condition. -/
import Derived.Test.YtkoahbhiffahdaaHandS
import Derived.Test.YtkoahbhiffahdaaAwakeA
namespace Go.Proofs.Ytkoahbhiffahdaa.All
open Go.RowKit Go.Proofs.YtkoahbhiffahdaaW.PrintWords Go.Proofs.YtkoahbhiffahdaaW.PrintLast Go.Proofs.YtkoahbhiffahdaaW.PrintMore
attribute [local go_sem] max2_int min2_int max_two min_two max_three min_three max_four min_four
open Go.Proofs.Ytkoahbhiffahdaa.Plain Go.Proofs.Ytkoahbhiffahdaa.Runs Go.Proofs.Ytkoahbhiffahdaa.Kit in
theorem bl_cons (l : List Int) : ∀ (M : Nat) (x : Int) (rest : List Int), bl l M = x :: rest → ∃ k : Nat, x = ((k + 1 : Nat) : Int) ∧ rest = bl l k ∧ k + 1 ≤ M ∧ PB l l.length (k + 1) ∧ ∀ k', k + 1 < k' → k' ≤ M → ¬ PB l l.length k' := by
  intro M
  induction M with
  | zero => intro x rest h; simp [bl] at h
  | succ M ih =>
    intro x rest h
    by_cases hp : PB l l.length (M + 1)
    · rw [bl_hit hp] at h
      obtain ⟨h1, h2⟩ := List.cons.inj h
      exact ⟨M, h1.symm, h2.symm, Nat.le_refl _, hp, fun k' a b => by omega⟩
    · rw [bl_miss hp] at h
      obtain ⟨k, e1, e2, e3, e4, e5⟩ := ih x rest h
      refine ⟨k, e1, e2, by omega, e4, fun k' a b => ?_⟩
      by_cases hk : k' = M + 1
      · rw [hk]; exact hp
      · exact e5 k' a (by omega)
open Go.Proofs.Ytkoahbhiffahdaa.Plain Go.Proofs.Ytkoahbhiffahdaa.Runs Go.Proofs.Ytkoahbhiffahdaa.Kit in
theorem bl_none (l : List Int) : ∀ (M : Nat), bl l M = [] → ∀ k, 1 ≤ k → k ≤ M → ¬ PB l l.length k := by
  intro M
  induction M with
  | zero => intro _ k a b; omega
  | succ M ih =>
    intro h k a b
    by_cases hp : PB l l.length (M + 1)
    · rw [bl_hit hp] at h; exact absurd h (by simp)
    · rw [bl_miss hp] at h
      by_cases hk : k = M + 1
      · rw [hk]; exact hp
      · exact ih h k a (by omega)
open Go.Proofs.Ytkoahbhiffahdaa.Plain Go.Proofs.Ytkoahbhiffahdaa.Runs Go.Proofs.Ytkoahbhiffahdaa.Kit in
theorem pf_of (l : List Int) (h1 : 1 ≤ l.length) (h2 : l.length ≤ 300) : ∃ bs p K, PF l bs p K := by
  obtain ⟨bs, hbs⟩ : ∃ bs, bs = bl l (l.length - 1) := ⟨_, rfl⟩
  have hmem := bl_mem l (l.length - 1)
  have hlen := bl_length l (l.length - 1)
  have hfall := bl_falls l (l.length - 1)
  obtain ⟨KB, hKB⟩ := borders (l := l) (by omega)
  rw [← hbs] at hmem hlen hfall hKB
  obtain ⟨KA, hKA⟩ := awake11
  have get : ∀ i : Nat, (hi : i < bs.length) → bs[i]? = some (rd bs i) := fun i hi => by simp [rd, List.getD_eq_getElem?_getD, hi]
  have mem : ∀ i : Nat, i < bs.length → ∃ k : Nat, rd bs i = k ∧ 1 ≤ k ∧ k ≤ l.length - 1 ∧ PB l l.length k := fun i hi => hmem _ (List.mem_of_getElem? (get i hi))
  obtain ⟨KS, hKS⟩ := same (a := bs.drop 1) (b := bs.drop 1) (by simp; omega)
  -- the period, and the borders of the longest border
  have key : ∃ P : Nat, LeastPer l P ∧ (bs.length = 0 → P = l.length) ∧ (bs.length ≠ 0 → (P : Int) = (l.length : Int) - rd bs 0) ∧ ∃ KI, ∀ K, KI ≤ K → bs.length ≠ 0 → suffix_Borders.f K (l.take (rd bs 0).toNat) = some (bs.drop 1) := by
    cases hc : bs with
    | nil =>
      have hn := bl_none l (l.length - 1) (by rw [← hbs]; exact hc)
      have hm : MB l l.length 0 := ⟨PB.zero h1, fun k' hk' => by
        by_cases hz : k' = 0
        · omega
        · exact absurd hk' (hn k' (by omega) (by have := hk'.1; omega))⟩
      exact ⟨l.length - 0, hm.per, fun _ => rfl, fun h => absurd rfl h, 0, fun K _ h => absurd rfl h⟩
    | cons x rest =>
      obtain ⟨k, e1, e2, e3, e4, e5⟩ := bl_cons l (l.length - 1) x rest (by rw [← hbs]; exact hc)
      have hm : MB l l.length (k + 1) := ⟨e4, fun k' hk' => by
        by_cases hz : k' ≤ k + 1
        · exact hz
        · exact absurd hk' (e5 k' (by omega) (by have := hk'.1; omega))⟩
      have hr : rd (x :: rest) 0 = ((k + 1 : Nat) : Int) := by rw [← e1]; rfl
      obtain ⟨KI, hKI⟩ := borders (l := l.take (k + 1)) (by simp; omega)
      have htl : (l.take (k + 1)).length = k + 1 := by simp; omega
      rw [htl, show k + 1 - 1 = k by omega, bl_take e4 k (by omega), ← e2] at hKI
      refine ⟨l.length - (k + 1), hm.per, fun h => by simp at h, fun _ => by rw [hr]; omega, KI, fun K hK _ => ?_⟩
      rw [hr]
      exact hKI K hK
  obtain ⟨P, hP, k1, k2, KI, k3⟩ := key
  obtain ⟨KP, hKP⟩ := period (l := l) (by omega) h1 hP
  refine ⟨bs, (P : Int), KA + KB + KS + KI + KP, ?_⟩
  exact {
    aw := hKA _ (by omega)
    hB := hKB _ (by omega)
    hP := hKP _ (by omega)
    p1 := by have := hP.pos; omega
    p2 := by have := hP.le h1; omega
    nil := fun h => by rw [k1 h]
    one := k2
    lo := fun i hi => by obtain ⟨k, e, a, b, _⟩ := mem i hi; rw [e]; omega
    fall := fun i hi => hfall i _ _ (get i (by omega)) (get (i + 1) hi)
    text := fun i hi => by
      obtain ⟨k, e, a, b, hpb⟩ := mem i hi
      rw [e]
      have e1 : ((k : Int)).toNat = k := by omega
      have e2 : ((l.length : Int) - (k : Int)).toNat = l.length - k := by omega
      rw [e1, e2]
      refine list_ext (by simp; omega) (fun j hj => ?_)
      have hj' : j < k := by simp at hj; omega
      rw [getD_take hj', getD_drop]
      exact hpb.2 j hj'
    inner := k3 _ (by omega)
    same := by have := hKS (KA + KB + KS + KI + KP) (by omega); simpa using this }
set_option maxHeartbeats 8000000 in
set_option maxRecDepth 100000 in
theorem seinelaw11_SuffixPeriods.calls (A0 : Option Addr) (c0 : Nat) (l0 : List Int) (w : World) (hr0 : Kd.C (Kd.int .u8) w A0 l0.length l0) (hc0 : l0.length ≤ c0) :
    Calls Try.prog 10 #[.slice A0 l0.length c0] w fun e w' => e = .returned (.bool true) ∧ Below w.heap.size w w' := by
  by_cases h2 : l0.length ≤ 300
  · by_cases h1 : 1 ≤ l0.length
    · obtain ⟨bs, p, K, h⟩ := pf_of l0 h1 h2
      exact seinelaw11_SuffixPeriods.main A0 c0 l0 w hr0 hc0 h1 h2 bs p K h
    · obtain ⟨KA, hKA⟩ := Go.Proofs.Ytkoahbhiffahdaa.Runs.awake11
      have AW := Aside0.mk (hKA KA (Nat.le_refl _))
      have g1 : decide ((l0.length : Int) > 300) = false := decide_eq_false (by omega)
      have g2 : ((l0.length : Int) == 0) = true := by simp only [beq_iff_eq]; omega
      go_enter Try.func10, Try.ntmps10
      go_wp2_with (go_at_call 19; (refine (seinelaw11_awake.calls KA true _ AW.out).mono ?_); rintro e w1 ⟨rfl, hb⟩; have HB1 := Aside0.mk hb; clear hb)
      go_ret
      exact ⟨rfl, HB1.out⟩
  · obtain ⟨KA, hKA⟩ := Go.Proofs.Ytkoahbhiffahdaa.Runs.awake11
    have AW := Aside0.mk (hKA KA (Nat.le_refl _))
    have g1 : decide ((l0.length : Int) > 300) = true := decide_eq_true (by omega)
    go_enter Try.func10, Try.ntmps10
    go_wp2_with (go_at_call 19; (refine (seinelaw11_awake.calls KA true _ AW.out).mono ?_); rintro e w1 ⟨rfl, hb⟩; have HB1 := Aside0.mk hb; clear hb)
    go_ret
    exact ⟨rfl, HB1.out⟩
theorem seinelaw11_SuffixPeriods.walk (a0 : Option Addr) (len0 cap0 : Nat) (z0 : List Int) (w : World) (w0 : (a0 = none ∧ len0 = 0 ∧ cap0 = 0 ∧ z0 = []) ∨ ∃ x, a0 = some x ∧ len0 ≤ cap0 ∧ cap0 ≤ maxLen ∧ z0.length = cap0 ∧ (∀ i, i < z0.length → w.cell? (x.add i) = some (.int .u8 (z0.getD i 0))) ∧ ∀ n ∈ z0, (Lit.int .u8 n).wf = true) :
    Calls Try.prog 10 #[.slice a0 len0 cap0] w fun e w' => e = .returned (.bool true) ∧ Below w.heap.size w w' := by
  obtain ⟨l0, rfl, hr0, _, _, hc0⟩ := ReadsInt.ofRowC w0
  exact seinelaw11_SuffixPeriods.calls _ _ l0 w (Kd.C_of_reads (d := (0 : Int)) (h1 := fun _ => rfl) hr0) hc0
end Go.Proofs.Ytkoahbhiffahdaa.All
