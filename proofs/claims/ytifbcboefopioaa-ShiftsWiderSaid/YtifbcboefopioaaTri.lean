/- Plain: texts as a tree of their beginnings: places, beginnings in the order of their numbers, what a node is. No condition. -/
import Derived.Test.YtifbcboefopioaaWWords
set_option linter.unusedVariables false
namespace Go.Proofs.Ytifbcboefopioaa.Tri
open Go.RowKit

abbrev Txt := List Int
/-- Where a text stands among some; -1: nowhere. -/
def place (l : List Txt) (s : Txt) : Int := if s ∈ l then (l.idxOf s : Int) else -1
theorem place_mem {l : List Txt} {s : Txt} (h : s ∈ l) : place l s = (l.idxOf s : Int) := if_pos h
theorem place_no {l : List Txt} {s : Txt} (h : s ∉ l) : place l s = -1 := if_neg h
theorem place_ge (l : List Txt) (s : Txt) : -1 ≤ place l s := by unfold place; split <;> omega
theorem place_lt (l : List Txt) (s : Txt) : place l s < l.length := by
  unfold place
  split
  · have := List.idxOf_lt_length_iff.2 ‹s ∈ l›; omega
  · omega
theorem place_pos {l : List Txt} {s : Txt} : 0 ≤ place l s ↔ s ∈ l := by
  unfold place
  split
  · exact ⟨fun _ => ‹s ∈ l›, fun _ => by omega⟩
  · exact ⟨fun h => by omega, fun h => absurd h ‹s ∉ l›⟩
theorem place_neg {l : List Txt} {s : Txt} : place l s < 0 ↔ s ∉ l := by
  rw [← place_pos]; omega
theorem place_append {l m : List Txt} {s : Txt} (h : s ∈ l) : place (l ++ m) s = place l s := by
  rw [place_mem h, place_mem (List.mem_append_left _ h), List.idxOf_append, if_pos h]
theorem place_new {l : List Txt} {s : Txt} (h : s ∉ l) : place (l ++ [s]) s = (l.length : Int) := by
  rw [place_mem (by simp), List.idxOf_append, if_neg h]
  simp
theorem place_at {P : List Txt} (hn : P.Nodup) {i : Nat} {s : Txt} (h : P[i]? = some s) : place P s = (i : Int) := by
  obtain ⟨hi, rfl⟩ := List.getElem?_eq_some_iff.1 h
  rw [place_mem (List.getElem_mem hi), List.Nodup.idxOf_getElem hn]
theorem place_get {l : List Txt} {s : Txt} {i : Nat} (h : place l s = (i : Int)) : l[i]? = some s := by
  have hm : s ∈ l := place_pos.1 (by omega)
  rw [place_mem hm] at h
  have e : l.idxOf s = i := by omega
  have hl := List.idxOf_lt_length_iff.2 hm
  rw [e] at hl
  rw [List.getElem?_eq_getElem hl]
  subst e
  rw [List.getElem_idxOf]
theorem place_first {l : List Txt} {s : Txt} {i : Nat} (h : l[i]? = some s) : place l s ≤ (i : Int) := by
  have hm : s ∈ l := List.mem_of_getElem? h
  rw [place_mem hm]
  have key : ∀ (l : List Txt) (i : Nat), l[i]? = some s → l.idxOf s ≤ i := by
    intro l
    induction l with
    | nil => intro i h; simp at h
    | cons x l ih =>
      intro i h
      rw [List.idxOf_cons]
      cases hx : x == s with
      | true => simp
      | false =>
        match i, h with
        | 0, h => simp at h; subst h; simp at hx
        | i + 1, h => have := ih i (by simpa using h); simp; omega
  have := key l i h
  omega

/-- Beginnings: the empty one ahead, none twice, each behind the one of a byte less. -/
structure Good (P : List Txt) : Prop where
  root : P[0]? = some []
  nodup : P.Nodup
  up : ∀ (i : Nat) (s : Txt), P[i]? = some s → 0 < i → s ≠ [] ∧ ∃ j : Nat, j < i ∧ P[j]? = some s.dropLast
def addP (P : List Txt) (s : Txt) : List Txt := if s ∈ P then P else P ++ [s]
theorem good_root : Good [[]] := ⟨rfl, by simp, fun i s h hi => by
  match i, hi with
  | i + 1, _ => simp at h⟩
theorem Good.pos {P : List Txt} (h : Good P) : 0 < P.length := (List.getElem?_eq_some_iff.1 h.root).1
theorem Good.nil_mem {P : List Txt} (h : Good P) : [] ∈ P := List.mem_of_getElem? h.root
theorem Good.nil_at {P : List Txt} (h : Good P) : place P [] = 0 := place_at h.nodup h.root
theorem Good.drop {P : List Txt} (h : Good P) {s : Txt} (hs : s ∈ P) : s.dropLast ∈ P := by
  obtain ⟨i, hi⟩ := List.mem_iff_getElem?.1 hs
  rcases Nat.eq_zero_or_pos i with rfl | h0
  · rw [h.root] at hi
    cases hi
    exact h.nil_mem
  · obtain ⟨_, j, _, hj⟩ := h.up i s hi h0
    exact List.mem_of_getElem? hj
theorem Good.take {P : List Txt} (h : Good P) : ∀ (k : Nat) {s : Txt}, s ∈ P → s.take (s.length - k) ∈ P
  | 0, s, hs => by simpa using hs
  | k + 1, s, hs => by
    have := h.drop (h.take k hs)
    rwa [List.dropLast_eq_take, List.take_take, List.length_take, show min (min (s.length - k) s.length - 1) (s.length - k) = s.length - (k + 1) by omega] at this
theorem Good.prefix {P : List Txt} (h : Good P) {s : Txt} (hs : s ∈ P) (n : Nat) : s.take n ∈ P := by
  by_cases hn : n ≤ s.length
  · have := h.take (s.length - n) hs
    rwa [show s.length - (s.length - n) = n by omega] at this
  · rwa [List.take_of_length_le (by omega)]
theorem addP_mem (P : List Txt) (s : Txt) : s ∈ addP P s := by unfold addP; split <;> simp_all
theorem addP_old {P : List Txt} {s x : Txt} (h : x ∈ P) : x ∈ addP P s := by unfold addP; split <;> simp_all
theorem addP_pre (P : List Txt) (s : Txt) : ∃ m, addP P s = P ++ m := by
  unfold addP
  split
  · exact ⟨[], by simp⟩
  · exact ⟨[s], rfl⟩
theorem addP_len (P : List Txt) (s : Txt) : P.length ≤ (addP P s).length ∧ (addP P s).length ≤ P.length + 1 := by
  unfold addP
  split <;> simp
theorem Good.add {P : List Txt} (h : Good P) {s : Txt} (hs : s ≠ []) (hp : s.dropLast ∈ P) : Good (addP P s) := by
  unfold addP
  split
  · exact h
  · rename_i hn
    refine ⟨?_, ?_, ?_⟩
    · rw [List.getElem?_append_left h.pos]; exact h.root
    · rw [List.nodup_append]
      exact ⟨h.nodup, by simp, fun a ha b hb => by simp at hb; subst hb; exact fun e => hn (e ▸ ha)⟩
    · intro i x hx hi
      by_cases hlt : i < P.length
      · rw [List.getElem?_append_left hlt] at hx
        obtain ⟨h1, j, hj, hjx⟩ := h.up i x hx hi
        exact ⟨h1, j, hj, by rw [List.getElem?_append_left (by omega)]; exact hjx⟩
      · have hi2 : i = P.length := by
          have := (List.getElem?_eq_some_iff.1 hx).1
          simp at this
          omega
        subst hi2
        simp at hx
        subst hx
        obtain ⟨j, hj⟩ := List.mem_iff_getElem?.1 hp
        have hjl := (List.getElem?_eq_some_iff.1 hj).1
        exact ⟨hs, j, hjl, by rw [List.getElem?_append_left hjl]; exact hj⟩

/-- The first n beginnings of a text, beside some. -/
def addAll (P : List Txt) (s : Txt) : Nat → List Txt
  | 0 => P
  | n + 1 => addP (addAll P s n) (s.take (n + 1))
def pathsFrom (P : List Txt) (L : List Txt) : List Txt := L.foldl (fun P s => addAll P s s.length) P
def pathsL (L : List Txt) : List Txt := pathsFrom [[]] L
theorem dropLast_take (s : Txt) (n : Nat) (h : n < s.length) : (s.take (n + 1)).dropLast = s.take n := by
  rw [List.dropLast_eq_take, List.length_take, List.take_take]
  congr 1
  omega
theorem take_ne (s : Txt) (n : Nat) (h : n < s.length) : s.take (n + 1) ≠ [] := by
  intro e
  have := congrArg List.length e
  rw [List.length_take, List.length_nil] at this
  omega
theorem addAll_spec {P : List Txt} (h : Good P) (s : Txt) : ∀ n, n ≤ s.length → Good (addAll P s n) ∧ s.take n ∈ addAll P s n
  | 0, _ => ⟨h, by simpa [addAll] using h.nil_mem⟩
  | n + 1, hn => by
    obtain ⟨h1, h2⟩ := addAll_spec h s n (by omega)
    exact ⟨h1.add (take_ne s n (by omega)) (by rw [dropLast_take s n (by omega)]; exact h2), addP_mem _ _⟩
theorem addAll_pre (P : List Txt) (s : Txt) : ∀ n, ∃ m, addAll P s n = P ++ m
  | 0 => ⟨[], by simp [addAll]⟩
  | n + 1 => by
    obtain ⟨m, hm⟩ := addAll_pre P s n
    obtain ⟨m2, hm2⟩ := addP_pre (addAll P s n) (s.take (n + 1))
    exact ⟨m ++ m2, by rw [addAll, hm2, hm, List.append_assoc]⟩
theorem addAll_len (P : List Txt) (s : Txt) : ∀ n, P.length ≤ (addAll P s n).length ∧ (addAll P s n).length ≤ P.length + n
  | 0 => ⟨Nat.le_refl _, Nat.le_refl _⟩
  | n + 1 => by
    have := addAll_len P s n
    have := addP_len (addAll P s n) (s.take (n + 1))
    rw [addAll]
    omega
theorem pathsFrom_good : ∀ (L P : List Txt), Good P → Good (pathsFrom P L)
  | [], _, h => h
  | s :: L, P, h => pathsFrom_good L _ (addAll_spec h s s.length (Nat.le_refl _)).1
theorem pathsFrom_pre : ∀ (L P : List Txt), ∃ m, pathsFrom P L = P ++ m
  | [], P => ⟨[], by simp [pathsFrom]⟩
  | s :: L, P => by
    obtain ⟨m, hm⟩ := addAll_pre P s s.length
    obtain ⟨m2, hm2⟩ := pathsFrom_pre L (addAll P s s.length)
    refine ⟨m ++ m2, ?_⟩
    show pathsFrom (addAll P s s.length) L = _
    rw [hm2, hm, List.append_assoc]
theorem pathsFrom_len : ∀ (L P : List Txt) (b : Nat), (∀ s ∈ L, s.length ≤ b) → (pathsFrom P L).length ≤ P.length + L.length * b
  | [], _, _, _ => by simp [pathsFrom]
  | s :: L, P, b, h => by
    have h1 := pathsFrom_len L (addAll P s s.length) b (fun x hx => h x (by simp [hx]))
    have h2 := (addAll_len P s s.length).2
    have h3 := h s (by simp)
    have e : pathsFrom P (s :: L) = pathsFrom (addAll P s s.length) L := rfl
    rw [e, List.length_cons, Nat.add_mul]
    omega
theorem pathsFrom_mem : ∀ (L P : List Txt), Good P → ∀ s ∈ L, s ∈ pathsFrom P L
  | x :: L, P, h, s, hs => by
    have hx := addAll_spec h x x.length (Nat.le_refl _)
    rcases List.mem_cons.1 hs with rfl | hs
    · obtain ⟨m, hm⟩ := pathsFrom_pre L (addAll P s s.length)
      show s ∈ pathsFrom (addAll P s s.length) L
      rw [hm]
      exact List.mem_append_left _ (by simpa using hx.2)
    · exact pathsFrom_mem L _ hx.1 s hs
theorem pathsFrom_snoc (P : List Txt) (L : List Txt) (s : Txt) : pathsFrom P (L ++ [s]) = addAll (pathsFrom P L) s s.length := by simp [pathsFrom]
theorem pathsL_good (L : List Txt) : Good (pathsL L) := pathsFrom_good L _ good_root
theorem pathsL_mem (L : List Txt) : ∀ s ∈ L, s ∈ pathsL L := pathsFrom_mem L _ good_root
/-- Whatever is true of a text's beginnings, is true of all. -/
theorem addAll_all {p : Txt → Prop} {P : List Txt} (hP : ∀ x ∈ P, p x) (s : Txt) (hs : ∀ n, n ≤ s.length → p (s.take n)) : ∀ n, n ≤ s.length → ∀ x ∈ addAll P s n, p x
  | 0, _, x, hx => hP x hx
  | n + 1, hn, x, hx => by
    rw [addAll, addP] at hx
    split at hx
    · exact addAll_all hP s hs n (by omega) x hx
    · rcases List.mem_append.1 hx with h | h
      · exact addAll_all hP s hs n (by omega) x h
      · simp at h
        subst h
        exact hs (n + 1) hn
theorem pathsFrom_all {p : Txt → Prop} : ∀ (L P : List Txt), (∀ x ∈ P, p x) → (∀ s ∈ L, ∀ n, n ≤ s.length → p (s.take n)) → ∀ x ∈ pathsFrom P L, p x
  | [], _, hP, _ => hP
  | s :: L, _, hP, hs => pathsFrom_all L _ (addAll_all hP s (hs s (by simp)) s.length (Nat.le_refl _)) (fun x hx => hs x (by simp [hx]))

/-! ### nodes -/
/-- The node of a byte less; -1: none. -/
def par (P : List Txt) (s : Txt) : Int := if s = [] then -1 else place P s.dropLast
def nodeOf (P : List Txt) (wd : Txt → Int) (s : Txt) : List Value := [.int .i64 (par P s), .int .i64 s.length, .int .i64 (wd s), .int .u8 (s.getLastD 0)]
def nodeCells (P : List Txt) (wd : Txt → Int) : List Value := P.flatMap (nodeOf P wd)
theorem flat4 {α β : Type} (f : α → List β) (hf : ∀ x, (f x).length = 4) : ∀ (l : List α) (i j : Nat) (x : α), l[i]? = some x → j < 4 → (l.flatMap f)[i * 4 + j]? = (f x)[j]?
  | [], i, j, x, h, _ => by simp at h
  | y :: l, 0, j, x, h, hj => by
    simp at h
    subst h
    rw [List.flatMap_cons, List.getElem?_append_left (by rw [hf]; omega)]
    simp
  | y :: l, i + 1, j, x, h, hj => by
    rw [List.flatMap_cons, List.getElem?_append_right (by rw [hf]; omega), hf, show (i + 1) * 4 + j - 4 = i * 4 + j by omega]
    exact flat4 f hf l i j x (by simpa using h) hj
theorem flat4_len {α β : Type} (f : α → List β) (hf : ∀ x, (f x).length = 4) : ∀ l : List α, (l.flatMap f).length = l.length * 4
  | [] => rfl
  | y :: l => by rw [List.flatMap_cons, List.length_append, hf, flat4_len f hf l, List.length_cons]; omega
theorem nodeCells_len (P : List Txt) (wd : Txt → Int) : (nodeCells P wd).length = P.length * 4 := flat4_len _ (fun _ => rfl) P
theorem nodeCells_at {P : List Txt} {wd : Txt → Int} {i : Nat} {s : Txt} (h : P[i]? = some s) (j : Nat) (hj : j < 4) : (nodeCells P wd)[i * 4 + j]? = (nodeOf P wd s)[j]? := flat4 _ (fun _ => rfl) P i j s h hj
theorem par_append {P : List Txt} (h : Good P) (m : List Txt) {s : Txt} (hs : s ∈ P) : par (P ++ m) s = par P s := by
  unfold par
  split
  · rfl
  · exact place_append (h.drop hs)
theorem nodeCells_add {P : List Txt} (h : Good P) (wd : Txt → Int) (x : Txt) : nodeCells (P ++ [x]) wd = nodeCells P wd ++ nodeOf (P ++ [x]) wd x := by
  unfold nodeCells
  rw [List.flatMap_append]
  congr 1
  · rw [List.flatMap_def, List.flatMap_def]
    congr 1
    apply List.map_congr_left
    intro s hs
    unfold nodeOf
    rw [par_append h [x] hs]
/-- A word's number, told anew. -/
theorem nodeCells_set {P : List Txt} (hn : P.Nodup) (wd wd' : Txt → Int) {i : Nat} {s : Txt} (hi : P[i]? = some s) (hs : ∀ x ∈ P, x ≠ s → wd' x = wd x) :
    (nodeCells P wd).set (i * 4 + 2) (.int .i64 (wd' s)) = nodeCells P wd' := by
  apply List.ext_getElem?
  intro n
  rw [List.getElem?_set]
  have hil := (List.getElem?_eq_some_iff.1 hi).1
  by_cases hlt : n < P.length * 4
  · obtain ⟨x, hx⟩ : ∃ x, P[n / 4]? = some x := ⟨_, List.getElem?_eq_getElem (by omega)⟩
    have e : n = n / 4 * 4 + n % 4 := by omega
    have hj : n % 4 < 4 := Nat.mod_lt _ (by omega)
    have h1 := nodeCells_at (wd := wd) hx (n % 4) hj
    have h2 := nodeCells_at (wd := wd') hx (n % 4) hj
    rw [← e] at h1 h2
    rw [h1, h2]
    by_cases hk : i * 4 + 2 = n
    · have hi4 : n / 4 = i := by omega
      have hj2 : n % 4 = 2 := by omega
      rw [hi4] at hx
      rw [hi] at hx
      cases hx
      rw [if_pos hk, if_pos (by rw [nodeCells_len]; omega), hj2]
      rfl
    · rw [if_neg hk]
      by_cases hxs : x = s
      · subst hxs
        have hii : n / 4 = i := by
          have := (List.getElem_inj (h₀ := by omega) (h₁ := hil) hn).1 (show P[n / 4]'(by omega) = P[i]'hil by
            rw [(List.getElem?_eq_some_iff.1 hx).2, (List.getElem?_eq_some_iff.1 hi).2])
          exact this
        have hj2 : n % 4 ≠ 2 := by omega
        match hm : n % 4, hj with
        | 0, _ => rfl
        | 1, _ => rfl
        | 2, _ => exact absurd hm hj2
        | 3, _ => rfl
      · have := hs x (List.mem_of_getElem? hx) hxs
        unfold nodeOf
        rw [this]
  · rw [if_neg (by omega), List.getElem?_eq_none (by rw [nodeCells_len]; omega), List.getElem?_eq_none (by rw [nodeCells_len]; omega)]
end Go.Proofs.Ytifbcboefopioaa.Tri
