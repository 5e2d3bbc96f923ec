/- Plain: what the laws of layer 14 ask of the least length, the nearest places and the ends. No condition. -/
import Derived.Test.YtifbcboefopioaaBackL
set_option linter.unusedVariables false
namespace Go.Proofs.Ytifbcboefopioaa.Tri
open Go.RowKit Go.Proofs.YtifbcboefopioaaW.PrintWords Go.Proofs.YtifbcboefopioaaW.PrintLast Go.Proofs.YtifbcboefopioaaW.PrintMore Go.Proofs.Ytifbcboefopioaa.Kit Go.Proofs.Ytifbcboefopioaa.All

/-- The least of some places, each told from nought on; 0: there is none. -/
def Sp (O : Nat → Prop) (v : Int) : Prop := (v = 0 ∧ ∀ m, ¬ O m) ∨ (0 < v ∧ (∃ m : Nat, O m ∧ v = (m : Int) + 1) ∧ ∀ m : Nat, O m → v ≤ (m : Int) + 1)
theorem Sp.congr {O O' : Nat → Prop} {v : Int} (h : Sp O v) (e : ∀ m, O m ↔ O' m) : Sp O' v := by
  rcases h with ⟨h0, h1⟩ | ⟨h0, ⟨m, hm, hv⟩, h2⟩
  · exact .inl ⟨h0, fun m hm => h1 m ((e m).2 hm)⟩
  · exact .inr ⟨h0, ⟨m, (e m).1 hm, hv⟩, fun m' hm' => h2 m' ((e m').2 hm')⟩
theorem sp_step {O : Nat → Prop} {v : Int} (h : Sp O v) (k : Nat) : Sp (fun m => O m ∨ m = k) (closer v ((k : Int) + 1)) := by
  unfold closer
  rcases h with ⟨h0, h1⟩ | ⟨h0, ⟨m, hm, hv⟩, h2⟩
  · rw [if_pos h0]
    exact .inr ⟨by omega, ⟨k, .inr rfl, rfl⟩, fun m hm => by rcases hm with h | h; exact absurd h (h1 m); omega⟩
  · rw [if_neg (by omega), Int.min_def]
    split
    · exact .inr ⟨h0, ⟨m, .inl hm, hv⟩, fun m' hm' => by rcases hm' with h | h; exact h2 m' h; omega⟩
    · exact .inr ⟨by omega, ⟨k, .inr rfl, rfl⟩, fun m' hm' => by rcases hm' with h | h; have := h2 m' h; omega; omega⟩
theorem nearT_sp {N : List Int} (hN : N.length = 256) {t : Txt} (hB : Bytes t) (c : Int) (c0 : 0 ≤ c) {O : Nat → Prop} (h : Sp O (rd N c)) : ∀ k, k ≤ t.length → Sp (fun m => O m ∨ (m < k ∧ rd t (m : Int) = c)) (rd (nearT N t k) c)
  | 0, _ => h.congr (fun m => ⟨fun h => .inl h, fun h => by rcases h with h | ⟨h, _⟩; exact h; omega⟩)
  | k + 1, hk => by
    have ih := nearT_sp hN hB c c0 h k (by omega)
    rw [nearT_step hN hB k (by omega) c c0]
    by_cases e : rd t (k : Int) = c
    · rw [if_pos e]
      refine (sp_step ih k).congr (fun m => ⟨fun h => ?_, fun h => ?_⟩)
      · rcases h with (h | ⟨h1, h2⟩) | h
        · exact .inl h
        · exact .inr ⟨by omega, h2⟩
        · subst h
          exact .inr ⟨by omega, e⟩
      · rcases h with h | ⟨h1, h2⟩
        · exact .inl (.inl h)
        · by_cases hm : m = k
          · exact .inr hm
          · exact .inl (.inr ⟨by omega, h2⟩)
    · rw [if_neg e]
      refine ih.congr (fun m => ⟨fun h => ?_, fun h => ?_⟩)
      · rcases h with h | ⟨h1, h2⟩
        · exact .inl h
        · exact .inr ⟨by omega, h2⟩
      · rcases h with h | ⟨h1, h2⟩
        · exact .inl h
        · by_cases hm : m = k
          · subst hm
            exact absurd h2 e
          · exact .inr ⟨by omega, h2⟩
theorem nearN_sp (T : List Txt) (hB : ∀ t ∈ T, Bytes t) (c : Int) (c0 : 0 ≤ c) : ∀ i, i ≤ T.length → Sp (fun m => ∃ t ∈ T.take i, m < t.length ∧ rd t (m : Int) = c) (rd (nearN (T.take i)) c)
  | 0, _ => by
    refine .inl ⟨?_, fun m ⟨t, ht, _⟩ => by simp at ht⟩
    rw [List.take_zero]
    show rd near0 c = 0
    unfold rd near0
    rw [List.getD_eq_getElem?_getD, List.getElem?_replicate]
    split <;> rfl
  | i + 1, hi => by
    have hl : i < T.length := by omega
    rw [List.take_succ_eq_append_getElem hl, nearN_snoc]
    refine (nearT_sp (nearN_len _) (hB _ (List.getElem_mem hl)) c c0 (nearN_sp T hB c c0 i (by omega)) T[i].length (Nat.le_refl _)).congr (fun m => ⟨fun h => ?_, fun h => ?_⟩)
    · rcases h with ⟨t, ht, h⟩ | h
      · exact ⟨t, List.mem_append_left _ ht, h⟩
      · exact ⟨T[i], List.mem_append.2 (.inr (List.mem_singleton.2 rfl)), h⟩
    · obtain ⟨t, ht, h⟩ := h
      rcases List.mem_append.1 ht with ht | ht
      · exact .inl ⟨t, ht, h⟩
      · rw [List.mem_singleton] at ht
        subst ht
        exact .inr h
theorem near_spec (T : List Txt) (hB : ∀ t ∈ T, Bytes t) (c : Int) (c0 : 0 ≤ c) : Sp (fun m => ∃ t ∈ T, m < t.length ∧ rd t (m : Int) = c) (rd (nearN T) c) := by
  have := nearN_sp T hB c c0 T.length (Nat.le_refl _)
  rwa [List.take_length] at this
theorem rd_rev (s : Txt) (m : Nat) (h : m < s.length) : rd s.reverse (m : Int) = rd s ((s.length : Int) - ((m : Int) + 1)) := by
  rw [rd_nat, rd_of (j := s.length - 1 - m) (by omega)]
  simp only [List.getD_eq_getElem?_getD, List.getElem?_reverse h]

/-! ### the law of the least -/
def hitB (s : Txt) (x k : Int) (m : Nat) : Bool := (List.range m).any fun (j : Nat) => (rd s ((s.length : Int) - ((j : Int) + 1)) == x) && (((j : Int) + 1) == k)
theorem hitB_next (s : Txt) (x k : Int) (m : Nat) : hitB s x k (m + 1) = (hitB s x k m || ((rd s ((s.length : Int) - ((m : Int) + 1)) == x) && (((m : Int) + 1) == k))) := by simp [hitB, List.range_succ]
def thereB (x k : Int) (l : List Txt) : Bool := (k == 0) || l.any fun s => hitB s x k s.length
theorem thereB_snoc (x k : Int) (l : List Txt) (s : Txt) : thereB x k (l ++ [s]) = (thereB x k l || hitB s x k s.length) := by simp [thereB, Bool.or_assoc]
def isB (n : Int) (l : List Txt) : Bool := (n == 0) || l.any fun s => !s.isEmpty && ((s.length : Int) == n)
theorem isB_snoc (n : Int) (l : List Txt) {s : Txt} (hs : s ≠ []) : isB n (l ++ [s]) = (isB n l || ((s.length : Int) == n)) := by
  have hs' : s.isEmpty = false := by
    cases s with
    | nil => exact absurd rfl hs
    | cons => rfl
  simp [isB, Bool.or_assoc, hs']
theorem isB_skip (n : Int) (l : List Txt) : isB n (l ++ [[]]) = isB n l := by simp [isB]
theorem thereB_skip (x k : Int) (l : List Txt) : thereB x k (l ++ [[]]) = thereB x k l := by simp [thereB, hitB]
theorem mem_TL {L : List Txt} {s : Txt} (h : s ∈ L) (h0 : s ≠ []) : s.reverse ∈ TL L := TL_mem.2 ⟨by simpa using h0, by simpa using h⟩
theorem least_round {L : List Txt} {s : Txt} (h : s ∈ L) (h0 : s ≠ []) : 0 < leastN (TL L) ∧ leastN (TL L) ≤ s.length := by
  have hm := mem_TL h h0
  obtain ⟨h1, _, h2⟩ := leastN_pos (TL_ne L) (List.ne_nil_of_mem hm)
  have := h2 _ hm
  rw [List.length_reverse] at this
  exact ⟨h1, this⟩
theorem near_round {L : List Txt} (hB : ∀ s ∈ L, Bytes s) {x : Int} (x0 : 0 ≤ x) {s : Txt} (h : s ∈ L) (m : Nat) (hm : m < s.length) (hx : rd s ((s.length : Int) - ((m : Int) + 1)) = x) : 0 < rd (nearN (TL L)) x ∧ rd (nearN (TL L)) x ≤ (m : Int) + 1 := by
  have h0 : s ≠ [] := by
    rintro rfl
    simp at hm
  rcases near_spec (TL L) (TL_bytes hB) x x0 with ⟨_, h1⟩ | ⟨h1, _, h2⟩
  · exact absurd ⟨s.reverse, mem_TL h h0, by rwa [List.length_reverse], by rw [rd_rev s m hm, hx]⟩ (h1 m)
  · exact ⟨h1, h2 m ⟨s.reverse, mem_TL h h0, by rwa [List.length_reverse], by rw [rd_rev s m hm, hx]⟩⟩
theorem isB_all (L : List Txt) : isB (leastN (TL L)) L = true := by
  by_cases h : TL L = []
  · rw [h]
    rfl
  · obtain ⟨_, ⟨t, ht, e⟩, _⟩ := leastN_pos (TL_ne L) h
    obtain ⟨h1, h2⟩ := TL_mem.1 ht
    unfold isB
    rw [Bool.or_eq_true]
    right
    rw [List.any_eq_true]
    refine ⟨t.reverse, h2, ?_⟩
    rw [e, List.length_reverse]
    simp [h1]
theorem thereB_all {L : List Txt} (hB : ∀ s ∈ L, Bytes s) {x : Int} (x0 : 0 ≤ x) : thereB x (rd (nearN (TL L)) x) L = true := by
  unfold thereB
  rw [Bool.or_eq_true]
  rcases near_spec (TL L) (TL_bytes hB) x x0 with ⟨h0, _⟩ | ⟨h0, ⟨m, ⟨t, ht, hm, hx⟩, hv⟩, _⟩
  · left
    simp [h0]
  · right
    obtain ⟨h1, h2⟩ := TL_mem.1 ht
    rw [List.any_eq_true]
    refine ⟨t.reverse, h2, ?_⟩
    unfold hitB
    rw [List.any_eq_true]
    refine ⟨m, List.mem_range.2 (by rwa [List.length_reverse]), ?_⟩
    have := rd_rev t.reverse m (by rwa [List.length_reverse])
    rw [List.reverse_reverse] at this
    rw [← this, hx, hv]
    simp

/-! ### the law of the ends -/
/-- Is a text an end of another one? -/
def endB (e s : Txt) : Bool := decide (e.length ≤ s.length) && (s.drop (s.length - e.length) == e)
def isE (e : Txt) (l : List Txt) : Bool := l.any fun s => endB e s
def wholeE (e : Txt) (l : List Txt) : Bool := l.any fun s => (s == e) && !e.isEmpty
theorem isE_snoc (e : Txt) (l : List Txt) (s : Txt) : isE e (l ++ [s]) = (isE e l || endB e s) := by simp [isE]
theorem wholeE_snoc (e : Txt) (l : List Txt) (s : Txt) : wholeE e (l ++ [s]) = (wholeE e l || ((s == e) && !e.isEmpty)) := by simp [wholeE]
theorem paths_in (T : List Txt) : ∀ p ∈ pathsL T, p = [] ∨ ∃ t ∈ T, ∃ n, p = t.take n :=
  pathsFrom_all T [[]] (fun x hx => .inl (by simpa using hx)) (fun s hs n _ => .inr ⟨s, hs, n, rfl⟩)
theorem isE_all {L : List Txt} (hL : L ≠ []) {p : Txt} (hp : p ∈ pathsL (TL L)) : isE p.reverse L = true := by
  unfold isE
  rw [List.any_eq_true]
  rcases paths_in _ p hp with rfl | ⟨t, ht, n, rfl⟩
  · obtain ⟨s, hs⟩ := List.exists_mem_of_ne_nil L hL
    exact ⟨s, hs, by simp [endB]⟩
  · obtain ⟨h1, h2⟩ := TL_mem.1 ht
    refine ⟨t.reverse, h2, ?_⟩
    unfold endB
    rw [Bool.and_eq_true, decide_eq_true_eq, beq_iff_eq]
    simp only [List.length_reverse, List.length_take]
    refine ⟨by omega, ?_⟩
    rw [List.reverse_take, show t.length - min n t.length = t.length - n by omega]
theorem wholeE_all {L : List Txt} (p : Txt) : wholeE p.reverse L = wholeB (place (TL L) p) := by
  unfold wholeE wholeB
  rw [Bool.eq_iff_iff, List.any_eq_true, decide_eq_true_eq, place_pos, TL_mem]
  constructor
  · rintro ⟨s, hs, h⟩
    rw [Bool.and_eq_true, beq_iff_eq] at h
    obtain ⟨rfl, h⟩ := h
    exact ⟨by simpa using h, hs⟩
  · rintro ⟨h1, h2⟩
    exact ⟨_, h2, by simp [h1]⟩
theorem ends_mem {L : List Txt} {s : Txt} (hs : s ∈ L) (n : Nat) : (s.drop n).reverse ∈ pathsL (TL L) := by
  by_cases h0 : s = []
  · subst h0
    simpa using (pathsL_good (TL L)).nil_mem
  · rw [List.reverse_drop]
    exact (pathsL_good (TL L)).prefix (pathsL_mem (TL L) _ (mem_TL hs h0)) _
end Go.Proofs.Ytifbcboefopioaa.Tri
