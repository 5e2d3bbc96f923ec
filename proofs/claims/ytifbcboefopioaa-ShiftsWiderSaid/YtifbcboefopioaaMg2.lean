/- Several texts in one (ShP, ShM, ShG, ShB, ShX), none of them changed. No condition. -/
import Derived.Test.YtifbcboefopioaaMg1
import Derived.Deep.QuietTactic
import Derived.BigQuiet
import Derived.StillTailTactics
/-! Plain: how far a window may be moved: the least of some numbers; what shifts.Build does to the two of each node. No condition. -/
set_option linter.unusedVariables false
namespace Go.Proofs.Ytifbcboefopioaa.Tri
open Go.RowKit Go.Proofs.YtifbcboefopioaaW.PrintWords Go.Proofs.YtifbcboefopioaaW.PrintLast Go.Proofs.YtifbcboefopioaaW.PrintMore Go.Proofs.Ytifbcboefopioaa.Kit Go.Proofs.Ytifbcboefopioaa.All

/-- The least of a number and of some others. -/
def Mn (a : Int) (O : Nat → Prop) (v : Int) : Prop := v ≤ a ∧ (∀ k, O k → v ≤ (k : Int)) ∧ (v = a ∨ ∃ k, O k ∧ v = (k : Int))
theorem Mn.congr {a v : Int} {O O' : Nat → Prop} (h : Mn a O v) (e : ∀ k, O k ↔ O' k) : Mn a O' v :=
  ⟨h.1, fun k hk => h.2.1 k ((e k).2 hk), h.2.2.imp id (fun ⟨k, hk, hv⟩ => ⟨k, (e k).1 hk, hv⟩)⟩
theorem Mn.start (a : Int) : Mn a (fun _ => False) a := ⟨Int.le_refl _, fun _ h => h.elim, .inl rfl⟩
theorem Mn.join {a v v' : Int} {O O' : Nat → Prop} (h : Mn a O v) (h' : Mn a O' v') : Mn a (fun k => O k ∨ O' k) (min v v') := by
  obtain ⟨h1, h2, h3⟩ := h
  obtain ⟨g1, g2, g3⟩ := h'
  rw [Int.min_def]
  split
  · exact ⟨h1, fun k hk => by rcases hk with h | h; exact h2 k h; have := g2 k h; omega, h3.imp id (fun ⟨k, hk, hv⟩ => ⟨k, .inl hk, hv⟩)⟩
  · exact ⟨g1, fun k hk => by rcases hk with h | h; have := h2 k h; omega; exact g2 k h, g3.imp id (fun ⟨k, hk, hv⟩ => ⟨k, .inr hk, hv⟩)⟩
theorem Mn.step {a v : Int} {O : Nat → Prop} (h : Mn a O v) (n : Nat) : Mn a (fun k => O k ∨ k = n) (min v (n : Int)) := by
  obtain ⟨h1, h2, h3⟩ := h
  rw [Int.min_def]
  split
  · exact ⟨h1, fun k hk => by rcases hk with h | h; exact h2 k h; omega, h3.imp id (fun ⟨k, hk, hv⟩ => ⟨k, .inl hk, hv⟩)⟩
  · exact ⟨by omega, fun k hk => by rcases hk with h | h; have := h2 k h; omega; omega, .inr ⟨n, .inr rfl, rfl⟩⟩
theorem Mn.uniq {a v v' : Int} {O : Nat → Prop} (h : Mn a O v) (h' : Mn a O v') : v = v' := by
  obtain ⟨h1, h2, h3⟩ := h
  obtain ⟨g1, g2, g3⟩ := h'
  have e1 : v ≤ v' := by
    rcases g3 with g | ⟨k, hk, g⟩
    · omega
    · have := h2 k hk
      omega
  have e2 : v' ≤ v := by
    rcases h3 with h | ⟨k, hk, h⟩
    · omega
    · have := g2 k hk
      omega
  omega
theorem Mn.pos {a v : Int} {O : Nat → Prop} (h : Mn a O v) (ha : 1 ≤ a) (hO : ∀ k, O k → 1 ≤ k) : 1 ≤ v := by
  rcases h.2.2 with e | ⟨k, hk, e⟩
  · omega
  · have := hO k hk
    omega
theorem Mn.wider {a a' v v' : Int} {O O' : Nat → Prop} (h : Mn a O v) (h' : Mn a' O' v') (ha : a' ≤ a) (hO : ∀ k, O k → O' k) : v' ≤ v := by
  rcases h.2.2 with e | ⟨k, hk, e⟩
  · have := h'.1
    omega
  · have := h'.2.1 k (hO k hk)
    omega

/-! ### the two of each node -/
abbrev Pr := Int × Int
def upd (fs : List Pr) (j : Nat) (n : Int) (wh : Bool) : List Pr := fs.set j (min (fs.getD j (0, 0)).1 n, if wh then min (fs.getD j (0, 0)).2 n else (fs.getD j (0, 0)).2)
theorem upd_len (fs : List Pr) (j : Nat) (n : Int) (wh : Bool) : (upd fs j n wh).length = fs.length := List.length_set ..
def goesN (P : List Txt) (wh : Bool) (x : Txt) (fs : List Pr) : Nat → List Pr
  | 0 => fs
  | n + 1 => if x.drop (n + 1) ∈ P then upd (goesN P wh x fs n) (P.idxOf (x.drop (n + 1))) ((n : Int) + 1) wh else goesN P wh x fs n
theorem goesN_len (P : List Txt) (wh : Bool) (x : Txt) (fs : List Pr) : ∀ n, (goesN P wh x fs n).length = fs.length
  | 0 => rfl
  | n + 1 => by
    rw [goesN]
    split
    · rw [upd_len, goesN_len P wh x fs n]
    · exact goesN_len P wh x fs n
def goesA (P : List Txt) (wd : Txt → Bool) (fs : List Pr) : Nat → List Pr
  | 0 => fs
  | w + 1 => goesN P (wd (P.getD w [])) (P.getD w []) (goesA P wd fs w) (P.getD w []).length
theorem goesA_len (P : List Txt) (wd : Txt → Bool) (fs : List Pr) : ∀ n, (goesA P wd fs n).length = fs.length
  | 0 => rfl
  | n + 1 => by rw [goesA, goesN_len, goesA_len P wd fs n]
def downN (P : List Txt) (fs : List Pr) : Nat → List Pr
  | 0 => fs
  | v + 1 => if v = 0 then fs else (downN P fs v).set v (((downN P fs v).getD v (0, 0)).1, min ((downN P fs v).getD v (0, 0)).2 ((downN P fs v).getD (par P (P.getD v [])).toNat (0, 0)).2)
theorem downN_len (P : List Txt) (fs : List Pr) : ∀ n, (downN P fs n).length = fs.length
  | 0 => rfl
  | n + 1 => by
    rw [downN]
    split
    · rfl
    · rw [List.length_set, downN_len P fs n]
/-- Each node's two are the least of a number and of some others. -/
def Sh (P : List Txt) (le : Int) (O1 O2 : Txt → Nat → Prop) (fs : List Pr) : Prop := fs.length = P.length ∧ ∀ i s, P[i]? = some s → Mn le (O1 s) (fs.getD i (0, 0)).1 ∧ Mn le (O2 s) (fs.getD i (0, 0)).2
theorem Sh.congr {P : List Txt} {le : Int} {O1 O2 O1' O2' : Txt → Nat → Prop} {fs : List Pr} (h : Sh P le O1 O2 fs) (e1 : ∀ s ∈ P, ∀ k, O1 s k ↔ O1' s k) (e2 : ∀ s ∈ P, ∀ k, O2 s k ↔ O2' s k) : Sh P le O1' O2' fs :=
  ⟨h.1, fun i s hi => ⟨(h.2 i s hi).1.congr (e1 s (List.mem_of_getElem? hi)), (h.2 i s hi).2.congr (e2 s (List.mem_of_getElem? hi))⟩⟩
theorem getD_set (fs : List Pr) (j i : Nat) (p : Pr) (hj : j < fs.length) : (fs.set j p).getD i (0, 0) = if j = i then p else fs.getD i (0, 0) := by
  simp only [List.getD_eq_getElem?_getD, List.getElem?_set]
  split
  · rename_i h
    subst h
    rfl
  · rfl
theorem Sh.start (P : List Txt) (le : Int) : Sh P le (fun _ _ => False) (fun _ _ => False) (List.replicate P.length (le, le)) := by
  refine ⟨List.length_replicate .., fun i s hi => ?_⟩
  have hil := (List.getElem?_eq_some_iff.1 hi).1
  have e : (List.replicate P.length (le, le)).getD i (0, 0) = (le, le) := by
    rw [List.getD_eq_getElem?_getD, List.getElem?_replicate, if_pos hil]
    rfl
  rw [e]
  exact ⟨Mn.start le, Mn.start le⟩
theorem idx_of {P : List Txt} (hn : P.Nodup) {i : Nat} {s : Txt} (h : P[i]? = some s) : P.idxOf s = i := by
  obtain ⟨hi, rfl⟩ := List.getElem?_eq_some_iff.1 h
  exact List.Nodup.idxOf_getElem hn i hi
theorem Sh.upd {P : List Txt} (hn : P.Nodup) {le : Int} {O1 O2 : Txt → Nat → Prop} {fs : List Pr} (h : Sh P le O1 O2 fs) {t : Txt} (ht : t ∈ P) (n : Nat) (wh : Bool) :
    Sh P le (fun s k => O1 s k ∨ (k = n ∧ s = t)) (fun s k => O2 s k ∨ (wh = true ∧ k = n ∧ s = t)) (upd fs (P.idxOf t) (n : Int) wh) := by
  have hj : P.idxOf t < fs.length := by rw [h.1]; exact List.idxOf_lt_length_iff.2 ht
  refine ⟨by rw [upd_len]; exact h.1, fun i s hi => ?_⟩
  obtain ⟨m1, m2⟩ := h.2 i s hi
  unfold Tri.upd
  rw [getD_set _ _ _ _ hj]
  by_cases e : P.idxOf t = i
  · have hst : s = t := by
      have h1 : P[i]? = some t := by
        obtain ⟨j, hj2⟩ := List.mem_iff_getElem?.1 ht
        rw [idx_of hn hj2] at e
        rw [← e]
        exact hj2
      rw [hi] at h1
      exact Option.some.inj h1
    subst hst
    rw [if_pos e, e]
    refine ⟨(m1.step n).congr (fun k => ⟨fun h => h.imp id (fun h => ⟨h, rfl⟩), fun h => h.imp id (fun h => h.1)⟩), ?_⟩
    cases wh with
    | true => exact (m2.step n).congr (fun k => ⟨fun h => h.imp id (fun h => ⟨rfl, h, rfl⟩), fun h => h.imp id (fun h => h.2.1)⟩)
    | false => exact m2.congr (fun k => ⟨fun h => .inl h, fun h => by rcases h with h | ⟨h, _⟩; exact h; cases h⟩)
  · have hst : s ≠ t := by
      rintro rfl
      exact e (idx_of hn hi)
    rw [if_neg e]
    exact ⟨m1.congr (fun k => ⟨fun h => .inl h, fun h => by rcases h with h | ⟨_, h⟩; exact h; exact absurd h hst⟩), m2.congr (fun k => ⟨fun h => .inl h, fun h => by rcases h with h | ⟨_, _, h⟩; exact h; exact absurd h hst⟩)⟩
theorem goesN_sh {P : List Txt} (hn : P.Nodup) {le : Int} {O1 O2 : Txt → Nat → Prop} {fs : List Pr} (h : Sh P le O1 O2 fs) (wh : Bool) (x : Txt) : ∀ n, Sh P le (fun s k => O1 s k ∨ (1 ≤ k ∧ k ≤ n ∧ x.drop k = s)) (fun s k => O2 s k ∨ (wh = true ∧ 1 ≤ k ∧ k ≤ n ∧ x.drop k = s)) (goesN P wh x fs n)
  | 0 => h.congr (fun s _ k => ⟨fun h => .inl h, fun h => by rcases h with h | h; exact h; omega⟩) (fun s _ k => ⟨fun h => .inl h, fun h => by rcases h with h | h; exact h; omega⟩)
  | n + 1 => by
    have ih := goesN_sh hn h wh x n
    rw [goesN]
    by_cases hm : x.drop (n + 1) ∈ P
    · rw [if_pos hm]
      have := Sh.upd hn ih hm (n + 1) wh
      rw [show ((n + 1 : Nat) : Int) = (n : Int) + 1 by omega] at this
      refine this.congr (fun s _ k => ⟨fun h => ?_, fun h => ?_⟩) (fun s _ k => ⟨fun h => ?_, fun h => ?_⟩)
      · rcases h with (h | ⟨h1, h2, h3⟩) | ⟨rfl, rfl⟩
        · exact .inl h
        · exact .inr ⟨h1, by omega, h3⟩
        · exact .inr ⟨by omega, by omega, rfl⟩
      · rcases h with h | ⟨h1, h2, h3⟩
        · exact .inl (.inl h)
        · by_cases e : k = n + 1
          · exact .inr ⟨e, by rw [← h3, e]⟩
          · exact .inl (.inr ⟨h1, by omega, h3⟩)
      · rcases h with (h | ⟨h0, h1, h2, h3⟩) | ⟨h0, rfl, rfl⟩
        · exact .inl h
        · exact .inr ⟨h0, h1, by omega, h3⟩
        · exact .inr ⟨h0, by omega, by omega, rfl⟩
      · rcases h with h | ⟨h0, h1, h2, h3⟩
        · exact .inl (.inl h)
        · by_cases e : k = n + 1
          · exact .inr ⟨h0, e, by rw [← h3, e]⟩
          · exact .inl (.inr ⟨h0, h1, by omega, h3⟩)
    · rw [if_neg hm]
      refine ih.congr (fun s hs k => ⟨fun h => ?_, fun h => ?_⟩) (fun s hs k => ⟨fun h => ?_, fun h => ?_⟩)
      · rcases h with h | ⟨h1, h2, h3⟩
        · exact .inl h
        · exact .inr ⟨h1, by omega, h3⟩
      · rcases h with h | ⟨h1, h2, h3⟩
        · exact .inl h
        · by_cases e : k = n + 1
          · exact absurd (by rw [← e, h3]; exact hs) hm
          · exact .inr ⟨h1, by omega, h3⟩
      · rcases h with h | ⟨h0, h1, h2, h3⟩
        · exact .inl h
        · exact .inr ⟨h0, h1, by omega, h3⟩
      · rcases h with h | ⟨h0, h1, h2, h3⟩
        · exact .inl h
        · by_cases e : k = n + 1
          · exact absurd (by rw [← e, h3]; exact hs) hm
          · exact .inr ⟨h0, h1, by omega, h3⟩
theorem goesA_sh {P : List Txt} (hn : P.Nodup) {le : Int} (wd : Txt → Bool) : ∀ n, n ≤ P.length → Sh P le (fun s k => ∃ w x, w < n ∧ P[w]? = some x ∧ 1 ≤ k ∧ k ≤ x.length ∧ x.drop k = s) (fun s k => ∃ w x, w < n ∧ P[w]? = some x ∧ wd x = true ∧ 1 ≤ k ∧ k ≤ x.length ∧ x.drop k = s) (goesA P wd (List.replicate P.length (le, le)) n)
  | 0, _ => (Sh.start P le).congr (fun s _ k => ⟨fun h => h.elim, fun ⟨w, x, h, _⟩ => by omega⟩) (fun s _ k => ⟨fun h => h.elim, fun ⟨w, x, h, _⟩ => by omega⟩)
  | n + 1, hl => by
    obtain ⟨y, hy⟩ : ∃ y, P[n]? = some y := ⟨_, List.getElem?_eq_getElem (by omega)⟩
    have hD : P.getD n [] = y := by rw [List.getD_eq_getElem?_getD, hy]; rfl
    rw [goesA, hD]
    refine (goesN_sh hn (goesA_sh hn wd n (by omega)) (wd y) y y.length).congr (fun s _ k => ⟨fun h => ?_, fun h => ?_⟩) (fun s _ k => ⟨fun h => ?_, fun h => ?_⟩)
    · rcases h with ⟨w, x, h1, h2⟩ | h
      · exact ⟨w, x, by omega, h2⟩
      · exact ⟨n, y, by omega, hy, h⟩
    · obtain ⟨w, x, h1, h2, h3⟩ := h
      by_cases e : w = n
      · subst e
        rw [hy] at h2
        cases h2
        exact .inr h3
      · exact .inl ⟨w, x, by omega, h2, h3⟩
    · rcases h with ⟨w, x, h1, h2⟩ | h
      · exact ⟨w, x, by omega, h2⟩
      · exact ⟨n, y, by omega, hy, h⟩
    · obtain ⟨w, x, h1, h2, h3⟩ := h
      by_cases e : w = n
      · subst e
        rw [hy] at h2
        cases h2
        exact .inr h3
      · exact .inl ⟨w, x, by omega, h2, h3⟩
/-- What is told of all nodes on the way. -/
def way (O : Txt → Nat → Prop) (s : Txt) (k : Nat) : Prop := ∃ m, m ≤ s.length ∧ O (s.take m) k
theorem way_nil (O : Txt → Nat → Prop) (k : Nat) : way O [] k ↔ O [] k := ⟨fun ⟨m, hm, h⟩ => by simpa using h, fun h => ⟨0, Nat.le_refl _, by simpa using h⟩⟩
theorem way_next (O : Txt → Nat → Prop) {s : Txt} (hs : s ≠ []) (k : Nat) : way O s k ↔ O s k ∨ way O s.dropLast k := by
  have hl : s.dropLast.length = s.length - 1 := List.length_dropLast
  have hp : 0 < s.length := List.length_pos_iff.2 hs
  have ht : ∀ m, m ≤ s.length - 1 → s.dropLast.take m = s.take m := fun m hm => by rw [List.dropLast_eq_take, List.take_take, Nat.min_eq_left hm]
  constructor
  · rintro ⟨m, hm, h⟩
    by_cases e : m = s.length
    · left
      rwa [e, List.take_length] at h
    · right
      exact ⟨m, by omega, by rw [ht m (by omega)]; exact h⟩
  · rintro (h | ⟨m, hm, h⟩)
    · exact ⟨s.length, Nat.le_refl _, by rw [List.take_length]; exact h⟩
    · exact ⟨m, by omega, by rw [← ht m (by omega)]; exact h⟩
theorem downN_sh {P : List Txt} (hG : Good P) {le : Int} {O1 O2 : Txt → Nat → Prop} {fs : List Pr} (h : Sh P le O1 O2 fs) : ∀ n, n ≤ P.length → (downN P fs n).length = P.length ∧ ∀ i s, P[i]? = some s → Mn le (O1 s) ((downN P fs n).getD i (0, 0)).1 ∧ (i < n → Mn le (way O2 s) ((downN P fs n).getD i (0, 0)).2) ∧ (n ≤ i → Mn le (O2 s) ((downN P fs n).getD i (0, 0)).2)
  | 0, _ => ⟨h.1, fun i s hi => ⟨(h.2 i s hi).1, fun h => by omega, fun _ => (h.2 i s hi).2⟩⟩
  | n + 1, hl => by
    obtain ⟨ihl, ih⟩ := downN_sh hG h n (by omega)
    refine ⟨by rw [downN_len]; exact h.1, fun i s hi => ?_⟩
    rw [downN]
    by_cases h0 : n = 0
    · subst h0
      rw [if_pos rfl]
      obtain ⟨m1, m2⟩ := h.2 i s hi
      refine ⟨m1, fun hi1 => ?_, fun _ => m2⟩
      obtain rfl : i = 0 := by omega
      rw [hG.root] at hi
      cases hi
      exact m2.congr (fun k => (way_nil O2 k).symm)
    · rw [if_neg h0]
      obtain ⟨y, hy⟩ : ∃ y, P[n]? = some y := ⟨_, List.getElem?_eq_getElem (by omega)⟩
      have hD : P.getD n [] = y := by rw [List.getD_eq_getElem?_getD, hy]; rfl
      obtain ⟨hyn, j, hj, hjy⟩ := hG.up n y hy (by omega)
      have hpar : (par P y).toNat = j := by
        rw [par, if_neg hyn, place_at hG.nodup hjy, Int.toNat_natCast]
      rw [hD, hpar, getD_set _ _ _ _ (by rw [ihl]; omega)]
      by_cases e : n = i
      · subst e
        rw [hy] at hi
        cases hi
        rw [if_pos rfl]
        obtain ⟨m1, _, m3⟩ := ih n s hy
        obtain ⟨_, q2, _⟩ := ih j s.dropLast hjy
        exact ⟨m1, fun _ => ((m3 (Nat.le_refl _)).join (q2 hj)).congr (fun k => (way_next O2 hyn k).symm), fun h => by omega⟩
      · rw [if_neg e]
        obtain ⟨m1, m2, m3⟩ := ih i s hi
        exact ⟨m1, fun h => m2 (by omega), fun h => m3 (by omega)⟩
/-- What First and Second are. -/
def O1 (P : List Txt) (s : Txt) (k : Nat) : Prop := ∃ x ∈ P, 1 ≤ k ∧ k ≤ x.length ∧ x.drop k = s
def farsN (T P : List Txt) : List Pr := downN P (goesA P (fun x => wholeB (place T x)) (List.replicate P.length (leastN T, leastN T)) P.length) P.length
theorem fars_sh {T P : List Txt} (hG : Good P) (hm : ∀ x ∈ T, x ∈ P) : Sh P (leastN T) (O1 P) (way (O1 T)) (farsN T P) := by
  obtain ⟨h1, h2⟩ := downN_sh hG (goesA_sh (le := leastN T) hG.nodup (fun x => wholeB (place T x)) P.length (Nat.le_refl _)) P.length (Nat.le_refl _)
  refine ⟨h1, fun i s hi => ?_⟩
  obtain ⟨m1, m2, _⟩ := h2 i s hi
  have e : ∀ s k, (∃ w x, w < P.length ∧ P[w]? = some x ∧ wholeB (place T x) = true ∧ 1 ≤ k ∧ k ≤ x.length ∧ x.drop k = s) ↔ O1 T s k := by
    intro s k
    constructor
    · rintro ⟨w, x, _, hw, hx, h⟩
      exact ⟨x, place_pos.1 (of_decide_eq_true hx), h⟩
    · rintro ⟨x, hx, h⟩
      obtain ⟨w, hw⟩ := List.mem_iff_getElem?.1 (hm x hx)
      exact ⟨w, x, (List.getElem?_eq_some_iff.1 hw).1, hw, decide_eq_true (place_pos.2 hx), h⟩
  refine ⟨m1.congr (fun k => ⟨fun ⟨w, x, _, hw, h⟩ => ⟨x, List.mem_of_getElem? hw, h⟩, fun ⟨x, hx, h⟩ => ?_⟩), (m2 (List.getElem?_eq_some_iff.1 hi).1).congr (fun k => ⟨fun ⟨m, hm, h⟩ => ⟨m, hm, (e _ _).1 h⟩, fun ⟨m, hm, h⟩ => ⟨m, hm, (e _ _).2 h⟩⟩)⟩
  obtain ⟨w, hw⟩ := List.mem_iff_getElem?.1 hx
  exact ⟨w, x, (List.getElem?_eq_some_iff.1 hw).1, hw, h⟩
theorem farsN_len (T P : List Txt) : (farsN T P).length = P.length := by rw [farsN, downN_len, goesA_len, List.length_replicate]
/-! ### the cells of a row of twos -/
def pcell (p : Pr) : List Value := [.int .i64 p.1, .int .i64 p.2]
def pcells (fs : List Pr) : List Value := fs.flatMap pcell
theorem flat2 {α β : Type} (f : α → List β) (hf : ∀ x, (f x).length = 2) : ∀ (l : List α) (i j : Nat) (x : α), l[i]? = some x → j < 2 → (l.flatMap f)[i * 2 + j]? = (f x)[j]?
  | [], i, j, x, h, _ => by simp at h
  | y :: l, 0, j, x, h, hj => by
    simp at h
    subst h
    rw [List.flatMap_cons, List.getElem?_append_left (by rw [hf]; omega)]
    simp
  | y :: l, i + 1, j, x, h, hj => by
    rw [List.flatMap_cons, List.getElem?_append_right (by rw [hf]; omega), hf, show (i + 1) * 2 + j - 2 = i * 2 + j by omega]
    exact flat2 f hf l i j x (by simpa using h) hj
theorem pcells_len (fs : List Pr) : (pcells fs).length = fs.length * 2 := by
  unfold pcells
  induction fs with
  | nil => rfl
  | cons y l ih => rw [List.flatMap_cons, List.length_append, ih, List.length_cons]; show 2 + _ = _; omega
theorem pcells_at {fs : List Pr} {i : Nat} {p : Pr} (h : fs[i]? = some p) : (pcells fs)[i * 2]? = some (.int .i64 p.1) ∧ (pcells fs)[i * 2 + 1]? = some (.int .i64 p.2) :=
  ⟨flat2 pcell (fun _ => rfl) fs i 0 p h (by omega), flat2 pcell (fun _ => rfl) fs i 1 p h (by omega)⟩
theorem pcells_snoc (fs : List Pr) (p : Pr) : pcells (fs ++ [p]) = pcells fs ++ [.int .i64 p.1, .int .i64 p.2] := by simp [pcells, pcell]
theorem pcells_set {fs : List Pr} {i : Nat} {p : Pr} (h : fs[i]? = some p) (q : Pr) (j : Nat) (hj : j < 2) (x : Int) (hq : (j = 0 ∧ q = (x, p.2)) ∨ (j = 1 ∧ q = (p.1, x))) : (pcells fs).set (i * 2 + j) (.int .i64 x) = pcells (fs.set i q) := by
  have hil := (List.getElem?_eq_some_iff.1 h).1
  apply List.ext_getElem?
  intro n
  rw [List.getElem?_set, pcells_len]
  by_cases hlt : n < fs.length * 2
  · obtain ⟨y, hy⟩ : ∃ y, fs[n / 2]? = some y := ⟨_, List.getElem?_eq_getElem (by omega)⟩
    have e : n = n / 2 * 2 + n % 2 := by omega
    have hm : n % 2 < 2 := Nat.mod_lt _ (by omega)
    have h1 : (pcells fs)[n]? = (pcell y)[n % 2]? := by
      have := flat2 pcell (fun _ => rfl) fs (n / 2) (n % 2) y hy hm
      rwa [← e] at this
    obtain ⟨z, hz⟩ : ∃ z, (fs.set i q)[n / 2]? = some z := ⟨_, List.getElem?_eq_getElem (by rw [List.length_set]; omega)⟩
    have h2 : (pcells (fs.set i q))[n]? = (pcell z)[n % 2]? := by
      have := flat2 pcell (fun _ => rfl) (fs.set i q) (n / 2) (n % 2) z hz hm
      rwa [← e] at this
    rw [h1, h2]
    rw [List.getElem?_set] at hz
    by_cases hi : i = n / 2
    · rw [if_pos hi, if_pos (by omega)] at hz
      cases hz
      rw [← hi, h] at hy
      cases hy
      by_cases hk : i * 2 + j = n
      · rw [if_pos hk, if_pos (by omega), show n % 2 = j by omega]
        rcases hq with ⟨rfl, rfl⟩ | ⟨rfl, rfl⟩ <;> rfl
      · rw [if_neg hk]
        have hnj : n % 2 ≠ j := by omega
        rcases hq with ⟨rfl, rfl⟩ | ⟨rfl, rfl⟩
        · rw [show n % 2 = 1 by omega]
          rfl
        · rw [show n % 2 = 0 by omega]
          rfl
    · rw [if_neg hi] at hz
      rw [hy] at hz
      cases hz
      rw [if_neg (by omega)]
  · rw [if_neg (by omega), List.getElem?_eq_none (by rw [pcells_len]; omega), List.getElem?_eq_none (by rw [pcells_len, List.length_set]; omega)]
end Go.Proofs.Ytifbcboefopioaa.Tri

/-! By hand: the struct of shifts in memory; its small methods. No condition but that it lies there. -/
set_option linter.unusedVariables false
namespace Go.Proofs.Ytifbcboefopioaa.Tri
open Go.RowKit Go.Maps Go.Proofs.YtifbcboefopioaaW.PrintWords Go.Proofs.YtifbcboefopioaaW.PrintLast Go.Proofs.YtifbcboefopioaaW.PrintMore Go.Proofs.Ytifbcboefopioaa.Kit Go.Proofs.Ytifbcboefopioaa.All
attribute [local go_sem] max2_int min2_int max_two min_two max_three min_three max_four min_four

theorem idx0 (x0 x1 : Value) (w : World) : (Instr.index 80 (.agg #[x0, x1]) (.int .i64 0)).run Try.prog w = .ok x0 w := by
  have h80 := Try.underlying80
  simp [Instr.index, asIntOf, run_underlying h80, part]
theorem part3 (x0 x1 : Value) (w : World) (i : Nat) (v : Value) (h : #[x0, x1][i]? = some v) : (part 3 #[x0, x1] i).run Try.prog w = .ok v w := by
  have h3 := Try.underlying3
  simp [part, isAgg, run_underlying h3, h]
theorem idx1 (x0 x1 : Value) (w : World) : (Instr.index 80 (.agg #[x0, x1]) (.int .i64 1)).run Try.prog w = .ok x1 w := by
  have h80 := Try.underlying80
  simp [Instr.index, asIntOf, run_underlying h80, part3 _ _ _ 1 _ rfl]
theorem eq80 (a b : Int) (w : World) : (Op.equalIn 10000 80 (.agg #[.int .i64 a, .int .i64 b]) (.agg #[.int .i64 0, .int .i64 0])).run Try.prog w = .ok ((a == 0) && (b == 0)) w := by
  have h80 := Try.underlying80
  rw [show (10000 : Nat) = 9998 + 1 + 1 from rfl]
  unfold Op.equalIn
  simp only [Sem.run_bind, run_underlying h80, Result.andThen]
  have e3 : ∀ (x y : Int) (W : World), (Op.equalIn (9998 + 1) 3 (.int .i64 x) (.int .i64 y)).run Try.prog W = .ok (x == y) W := fun x y W => run_equalIn_int W 9998 3 .i64 .i64 x y Try.underlying3
  simp [part3 _ _ _ 0 _ rfl, part3 _ _ _ 1 _ rfl, e3, show List.range' 0 2 = [0, 1] from rfl]
  by_cases ha : a = 0 <;> by_cases hb : b = 0 <;> simp [ha, hb]
attribute [local go_sem] idx0 idx1 eq80
theorem min_ite (a n : Int) : (if n < a then n else a) = min a n := by rw [Int.min_def]; split <;> split <;> omega
theorem max_ite (a n : Int) : (if a < n then n else a) = max a n := by rw [Int.max_def]; split <;> split <;> omega
/-- The struct in block h, its twos in a row from 'base' on. -/
def FarAt (w : World) (base h : Nat) (gp : Value) (fs : List Pr) : Prop := ∃ v, base ≤ h ∧ w.heap[h]? = some (.cells #[gp, v] 79) ∧ w.ownsRow base 80 2 v fs.length (pcells fs)
section
variable {w : World} {base h : Nat} {gp : Value} {fs : List Pr}
theorem FarAt.below {w1 : World} (H : FarAt w base h gp fs) (hb : Below w.heap.size w w1) : FarAt w1 base h gp fs := by
  obtain ⟨v, h1, h2, h3⟩ := H
  exact ⟨v, h1, (hb.block h (Array.getElem?_eq_some_iff.1 h2).1).trans h2, ownsRow_below h3 hb⟩
theorem far_block {n cap f : Nat} {xs : List Value} (h : w.ownsRow base 80 2 (.slice (some ⟨f, 0, none⟩) n cap) n xs) : ∃ cur, w.heap[f]? = some (.cells cur 80) := by
  rcases h.2 with ⟨h0, _⟩ | ⟨g', cap', cur, hv, hb, hg, rest⟩
  · cases h0
  · cases hv
    exact ⟨cur, hg⟩
theorem far_form {n : Nat} {v : Value} {xs : List Value} (h : w.ownsRow base 80 2 v n xs) (hn : 0 < n) : ∃ f cap, v = .slice (some ⟨f, 0, none⟩) n cap := by
  rcases h.2 with ⟨_, h0⟩ | ⟨g, cap, cur, hv, _⟩
  · have := h.1
    subst h0
    simp at this
    omega
  · exact ⟨g, cap, hv⟩
/-- All that is read of it. -/
theorem FarAt.reads (H : FarAt w base h gp fs) (hn : 0 < fs.length) : ∃ f cap, w.cell? ⟨h, 0, none⟩ = some gp ∧ w.cell? ⟨h, 1, none⟩ = some (.slice (some ⟨f, 0, none⟩) fs.length cap) ∧ (∃ cur, w.heap[f]? = some (.cells cur 80)) ∧
    (∀ i p, fs[i]? = some p → w.cell? ⟨f, i * 2, none⟩ = some (.int .i64 p.1) ∧ w.cell? ⟨f, i * 2 + 1, none⟩ = some (.int .i64 p.2) ∧ w.frozen? ⟨f, i * 2, none⟩ = false ∧ w.frozen? ⟨f, i * 2 + 1, none⟩ = false) ∧
    (∀ i p, fs[i]? = some p → ∀ j < 2, ∀ x q, ((j = 0 ∧ q = (x, p.2)) ∨ (j = 1 ∧ q = (p.1, x))) → FarAt (w.setCell ⟨f, i * 2 + j, none⟩ (.int .i64 x)) base h gp (fs.set i q)) ∧ base ≤ f := by
  obtain ⟨v, h1, h2, h3⟩ := H
  obtain ⟨f, cap, rfl⟩ := far_form h3 hn
  obtain ⟨x0, x1, _⟩ := block_cells h2
  obtain ⟨cur, hcur⟩ := far_block h3
  have hc := h3.cells (g := f) rfl
  refine ⟨f, cap, x0, x1, ⟨cur, hcur⟩, fun i p hp => ?_, fun i p hp j hj x q hq => ?_, (h3.lt f rfl).1⟩
  · obtain ⟨e1, e2⟩ := pcells_at hp
    have c1 := hc _ _ e1
    have c2 := hc _ _ e2
    rw [add_at] at c1 c2
    exact ⟨c1, c2, h3.frozenAt _, h3.frozenAt _⟩
  · obtain ⟨k1, k2⟩ := h3.stored (i * 2 + j) (.int .i64 x)
    rw [pcells_set hp q j hj x hq] at k1
    have hne : h ≠ f := by
      rintro rfl
      rw [h2] at hcur
      injection hcur with e
      injection e with _ e
      revert e
      decide
    refine ⟨_, h1, (k2.block h (Array.getElem?_eq_some_iff.1 h2).1 (fun e => hne (Option.some.inj e))).trans h2, ?_⟩
    rw [List.length_set]
    exact k1
theorem FarAt.ptr (H : FarAt w base h gp fs) : w.cell? ⟨h, 0, none⟩ = some gp := by
  obtain ⟨v, h1, h2, h3⟩ := H
  exact (block_cells h2).1
theorem FarAt.drewN (H : FarAt w base h gp fs) (n : Nat) : FarAt (w.drewN n) base h gp fs := H.below (pw_below_drewN (Below.refl _ _) n)
theorem less_at (f k : Nat) (old n : Int) (hc : w.cell? ⟨f, k, none⟩ = some (.int .i64 old)) (hf : w.frozen? ⟨f, k, none⟩ = false) :
    Calls Try.prog 64 #[.pointer (some ⟨f, k, none⟩), .int .i64 n] w fun e w' => e = .returned (.tuple #[]) ∧ ∃ m, w' = (w.drewN m).setCell ⟨f, k, none⟩ (.int .i64 (min old n)) := by
  have hm := min_ite old n
  go_enter Try.func64, Try.ntmps64
  go_wp2
  first | go_end0 | ((try simp only [Exit.inBlock, Exit.then]); refine bodyPost_ret (results_none rfl _ _ _) rfl ?_)
  exact ⟨rfl, 0, rfl⟩
theorem of_at (H : FarAt w base h gp fs) (i : Nat) (p : Pr) (hi : fs[i]? = some p) : Calls Try.prog 62 #[.pointer (some ⟨h, 0, none⟩), .int .i64 i] w fun e w' => e = .returned (.agg #[.int .i64 p.1, .int .i64 p.2]) ∧ Below w.heap.size w w' := by
  have hil := (List.getElem?_eq_some_iff.1 hi).1
  obtain ⟨f, cap, x0, x1, _, hr, _, _⟩ := H.reads (by omega)
  obtain ⟨c1, c2, _, _⟩ := hr i p hi
  have k1 : ((i : Nat) : Int) < (fs.length : Int) := by omega
  have k0 : (0 : Int) ≤ (i : Int) := by omega
  have d0 : decide ((i : Int) < 0) = false := decide_eq_false (by omega)
  have hlt := World.block_lt_of_cell? w _ x1
  have hlf := World.block_lt_of_cell? w _ c1
  obtain ⟨p1, p2⟩ := p
  clear hr H hi
  go_enter Try.func62, Try.ntmps62
  go_wp2
  exact bodyPost_ret (v := .agg #[.int .i64 p1, .int .i64 p2]) (by simp [results, Try.results62, go_sem]) rfl ⟨rfl, below_alloc (Below.refl _ _) _⟩
theorem of_no (H : FarAt w base h gp fs) (n : Int) (hn : n < 0 ∨ (fs.length : Int) ≤ n) : Calls Try.prog 62 #[.pointer (some ⟨h, 0, none⟩), .int .i64 n] w fun e w' => e = .returned (.agg #[.int .i64 0, .int .i64 0]) ∧ Below w.heap.size w w' := by
  obtain ⟨v, h1, h2, h3⟩ := H
  obtain ⟨x0, x1, _⟩ := block_cells h2
  have hlt := World.block_lt_of_cell? w _ x1
  have hv : ∃ A c, v = .slice A fs.length c := by
    rcases Nat.eq_zero_or_pos fs.length with e | e
    · rcases h3.2 with ⟨rfl, _⟩ | ⟨f, cap, cur, rfl, _⟩
      · exact ⟨none, 0, by rw [e]⟩
      · exact ⟨_, _, rfl⟩
    · obtain ⟨f, cap, rfl⟩ := far_form h3 e
      exact ⟨_, _, rfl⟩
  obtain ⟨A, c, rfl⟩ := hv
  clear h1 h2 h3
  rcases hn with hn | hn
  · have d0 : decide (n < 0) = true := decide_eq_true hn
    go_enter Try.func62, Try.ntmps62
    go_wp2
    exact bodyPost_ret (v := .agg #[.int .i64 0, .int .i64 0]) (by simp [results, Try.results62, go_sem]) rfl ⟨rfl, below_alloc (Below.refl _ _) _⟩
  · have d0 : decide (n < 0) = false := decide_eq_false (by omega)
    have d1 : decide (n ≥ (fs.length : Int)) = true := decide_eq_true hn
    go_enter Try.func62, Try.ntmps62
    go_wp2
    exact bodyPost_ret (v := .agg #[.int .i64 0, .int .i64 0]) (by simp [results, Try.results62, go_sem]) rfl ⟨rfl, below_alloc (Below.refl _ _) _⟩
theorem of_nil (n : Int) (w : World) : Calls Try.prog 62 #[.pointer none, .int .i64 n] w fun e w' => e = .returned (.agg #[.int .i64 0, .int .i64 0]) ∧ Below w.heap.size w w' := by
  go_enter Try.func62, Try.ntmps62
  go_wp2
  exact bodyPost_ret (v := .agg #[.int .i64 0, .int .i64 0]) (by simp [results, Try.results62, go_sem]) rfl ⟨rfl, below_alloc (Below.refl _ _) _⟩
theorem first_of (hp : Value) (n : Int) (p : Pr) (ho : Calls Try.prog 62 #[hp, .int .i64 n] w fun e w' => e = .returned (.agg #[.int .i64 p.1, .int .i64 p.2]) ∧ Below w.heap.size w w') : Calls Try.prog 49 #[hp, .int .i64 n] w fun e w' => e = .returned (.int .i64 p.1) ∧ Below w.heap.size w w' := by
  have HO := Aside0.mk ho
  clear ho
  go_enter Try.func49, Try.ntmps49
  go_wp2_with (go_at_call 62; (with_reducible refine HO.out.mono ?_); rintro e w1 ⟨rfl, hb⟩; have HB := Aside0.mk hb; clear hb)
  go_ret
  exact ⟨rfl, HB.out⟩
theorem second_of (hp : Value) (n : Int) (p : Pr) (ho : Calls Try.prog 62 #[hp, .int .i64 n] w fun e w' => e = .returned (.agg #[.int .i64 p.1, .int .i64 p.2]) ∧ Below w.heap.size w w') : Calls Try.prog 51 #[hp, .int .i64 n] w fun e w' => e = .returned (.int .i64 p.2) ∧ Below w.heap.size w w' := by
  have HO := Aside0.mk ho
  clear ho
  go_enter Try.func51, Try.ntmps51
  go_wp2_with (go_at_call 62; (with_reducible refine HO.out.mono ?_); rintro e w1 ⟨rfl, hb⟩; have HB := Aside0.mk hb; clear hb)
  go_ret
  exact ⟨rfl, HB.out⟩
theorem far_zero (hp : Value) (n c : Int) (ho : Calls Try.prog 62 #[hp, .int .i64 n] w fun e w' => e = .returned (.agg #[.int .i64 0, .int .i64 0]) ∧ Below w.heap.size w w') : Calls Try.prog 53 #[hp, .int .i64 n, .int .u8 c] w fun e w' => e = .returned (.int .i64 0) ∧ Below w.heap.size w w' := by
  have HO := Aside0.mk ho
  clear ho
  go_enter Try.func53, Try.ntmps53
  go_wp2_with (go_at_call 62; (with_reducible refine HO.out.mono ?_); rintro e w1 ⟨rfl, hb⟩; have HB := Aside0.mk hb; clear hb)
  go_ret
  exact ⟨rfl, below_alloc HB.out _⟩
def farV (le n d : Int) (p : Pr) : Int := min p.2 (max p.1 ((if 0 < n then min (le + 1) n else le + 1) - d - 1))
variable {g base0 b : Nat} {le : Int} {N : List Int} {P : List Txt} {wd : Txt → Int}
set_option maxRecDepth 100000 in
set_option maxHeartbeats 2000000 in
theorem far_at (H : FarAt w base h (.pointer (some ⟨g, 0, none⟩)) fs) (hK : BackIs w g (.pointer (some ⟨b, 0, none⟩)) le N) (hT : TreeAt w base0 b P wd) (i : Nat) (s : Txt) (hi : P[i]? = some s) (p : Pr) (hp : fs[i]? = some p) (c : Nat) (hc : c < 256)
    (p0 : 1 ≤ p.1) (p1 : p.1 ≤ 1000) (p2 : 1 ≤ p.2) (p3 : p.2 ≤ 1000) (l0 : 0 ≤ le) (l1 : le ≤ 1000) (n0 : 0 ≤ rd N c) (n1 : rd N c ≤ 1000) (s1 : s.length ≤ 1000) :
    Calls Try.prog 53 #[.pointer (some ⟨h, 0, none⟩), .int .i64 i, .int .u8 c] w fun e w' => e = .returned (.int .i64 (farV le (rd N c) s.length p)) ∧ Below w.heap.size w w' := by
  have OF := Aside0.mk (of_at H i p hp)
  obtain ⟨F, SF, E0, FF⟩ := stays_pack ((stays_below w).and (fun w w' (h0 : FarAt w base h (.pointer (some ⟨g, 0, none⟩)) fs) hb => h0.below hb : Stays (fun w => FarAt w base h (.pointer (some ⟨g, 0, none⟩)) fs)) |>.and ((stays_is g (.pointer (some ⟨b, 0, none⟩)) le N).and (stays_tree base0 b P wd))) ⟨⟨Below.refl _ _, H⟩, hK, hT⟩
  have LS := Aside0.mk (fun (w1 : World) (h : F w1) => least_at (FF.out w1 h).2.1)
  have NR := Aside0.mk (fun (w1 : World) (h : F w1) => near_at (FF.out w1 h).2.1 c hc)
  have DP := Aside0.mk (fun (w1 : World) (h : F w1) => depth_at (FF.out w1 h).2.2 i s hi)
  have XH : Aside0 (∀ w1, F w1 → w1.cell? ⟨h, 0, none⟩ = some (.pointer (some ⟨g, 0, none⟩))) := ⟨fun w1 h => (FF.out w1 h).1.2.ptr⟩
  have XG : Aside0 (∀ w1, F w1 → w1.cell? ⟨g, 0, none⟩ = some (.pointer (some ⟨b, 0, none⟩))) := ⟨fun w1 h => (FF.out w1 h).2.1.tr⟩
  obtain ⟨nr, hnr⟩ : ∃ nr, rd N c = nr := ⟨_, rfl⟩
  rw [hnr] at NR n0 n1 ⊢
  obtain ⟨q1, q2⟩ := p
  simp only at p0 p1 p2 p3 OF
  clear H hK hT hi hp hnr
  obtain ⟨k1, hk1⟩ : ∃ k1, le + 1 = k1 := ⟨_, rfl⟩
  have wl : IntKind.i64.wrap (le + 1) = k1 := by rw [hk1]; exact IntWalk.i64_in _ (by omega)
  obtain ⟨k2, hk2⟩ : ∃ k2, (if 0 < nr then min k1 nr else k1) = k2 := ⟨_, rfl⟩
  have b2 : 0 ≤ k2 ∧ k2 ≤ 1001 := by
    rw [← hk2, Int.min_def]
    split
    · split <;> omega
    · omega
  obtain ⟨b20, b21⟩ := b2
  go_enter Try.func53, Try.ntmps53
  have e0 : (q1 == 0) = false := beq_eq_false_iff_ne.2 (by omega)
  go_upto_region 4 with (go_at_call 62; (with_reducible refine OF.out.mono ?_); rintro e w1 ⟨rfl, hb⟩; have F1 := Aside0.mk (SF.out _ _ E0.out hb); clear hb)
  have F2 := Aside0.mk (SF.out _ _ F1.out (below_alloc (Below.refl _ _) (.cells #[.int .i64 q1, .int .i64 q2] 80)))
  have hne := blk_new w1 (.cells #[.int .i64 q1, .int .i64 q2] 80)
  obtain ⟨W2, hW2⟩ : ∃ W, w1.alloc (.cells #[.int .i64 q1, .int .i64 q2] 80) = W := ⟨_, rfl⟩
  obtain ⟨t, ht⟩ : ∃ t, w1.heap.size = t := ⟨_, rfl⟩
  rw [hW2, ht] at hne
  rw [hW2] at F2 ⊢
  rw [ht]
  obtain ⟨y0, y1, _⟩ := block_cells hne
  have xh := XH.out _ F2.out
  have xg := XG.out _ F2.out
  have FD : Aside0 (∀ n, F (W2.drewN n)) := ⟨fun n => SF.out _ _ F2.out (pw_below_drewN (Below.refl _ _) n)⟩
  obtain ⟨k3, hk3⟩ : ∃ k3, k2 - (s.length : Int) = k3 := ⟨_, rfl⟩
  obtain ⟨k4, hk4⟩ : ∃ k4, k3 - 1 = k4 := ⟨_, rfl⟩
  obtain ⟨m1, hm1⟩ : ∃ m1, max q1 k4 = m1 := ⟨_, rfl⟩
  obtain ⟨m2, hm2⟩ : ∃ m2, min q2 m1 = m2 := ⟨_, rfl⟩
  have HM2 : Aside0 (farV le nr (s.length : Int) (q1, q2) = m2) := ⟨by unfold farV; simp only; rw [hk1, hk2, hk3, hk4, hm1, hm2]⟩
  have w3 : IntKind.i64.wrap (k2 - (s.length : Int)) = k3 := by rw [hk3]; exact IntWalk.i64_in _ (by omega)
  have w4 : IntKind.i64.wrap (k3 - 1) = k4 := by rw [hk4]; exact IntWalk.i64_in _ (by omega)
  have i1 : (if q1 < k4 then k4 else q1) = m1 := by rw [max_ite, hm1]
  have i2 : (if m1 < q2 then m1 else q2) = m2 := by rw [min_ite, hm2]
  clear hne hW2 ht F1 E0 hk3 hk4 hm1 hm2 OF
  by_cases c0 : 0 < nr
  · have d0 : decide (nr > 0) = true := decide_eq_true c0
    have i0 : (if nr < k1 then nr else k1) = k2 := by rw [if_pos c0] at hk2; rw [min_ite, hk2]
    clear hk1 hk2
    go_upto_region 8 with (first
      | (go_at_call 37; (with_reducible refine (LS.out _ F2.out).mono ?_); rintro e w' ⟨rfl, hw⟩; subst hw)
      | (go_at_call 42; (with_reducible refine (NR.out _ F2.out).mono ?_); rintro e w' ⟨rfl, hw⟩; subst hw))
    go_quiet ((go_at_call 26; exact Calls.quiet_of_same (DP.out _ (FD.out _))))
    go_wp2
    go_ret
    exact ⟨by rw [HM2.out]; rfl, (FF.out _ (FD.out _)).1.1⟩
  · have d0 : decide (nr > 0) = false := decide_eq_false c0
    rw [if_neg c0] at hk2
    subst hk2
    clear hk1
    go_upto_region 8 with (first
      | (go_at_call 37; (with_reducible refine (LS.out _ F2.out).mono ?_); rintro e w' ⟨rfl, hw⟩; subst hw)
      | (go_at_call 42; (with_reducible refine (NR.out _ F2.out).mono ?_); rintro e w' ⟨rfl, hw⟩; subst hw))
    go_quiet ((go_at_call 26; exact Calls.quiet_of_same (DP.out _ (FD.out _))))
    go_wp2
    go_ret
    exact ⟨by rw [HM2.out]; rfl, (FF.out _ (FD.out _)).1.1⟩
end
end Go.Proofs.Ytifbcboefopioaa.Tri

/-! By hand: shifts.goes: a node tells all that it goes on how far it is ahead. No condition but sizes. -/
set_option linter.unusedVariables false
set_option linter.unusedSimpArgs false
namespace Go.Proofs.Ytifbcboefopioaa.Tri
open Go.RowKit Go.Maps Go.Proofs.YtifbcboefopioaaW.PrintWords Go.Proofs.YtifbcboefopioaaW.PrintLast Go.Proofs.YtifbcboefopioaaW.PrintMore Go.Proofs.Ytifbcboefopioaa.Kit Go.Proofs.Ytifbcboefopioaa.All
attribute [local go_sem] max2_int min2_int max_two min_two max_three min_three max_four min_four

theorem ty80 : ∀ q, q ∈ 5 :: (Kd.int .u8).E → q ≠ 80 := by
  intro q hq
  simp [Kd.int, Kd.scalar] at hq
  omega
theorem below_setB {B : Nat} {w0 w : World} {f j : Nat} {v : Value} (h : Below B w0 w) (hf : B ≤ f) : Below B w0 (w.setCell ⟨f, j, none⟩ v) := h.setCell hf _
theorem set_drewN (w : World) (m : Nat) (a : Addr) (v : Value) : (w.drewN m).setCell a v = (w.setCell a v).drewN m := by
  unfold World.setCell World.drewN
  cases h : w.heap[a.block]? with
  | none => simp [h]
  | some o => cases o <;> simp [h]
theorem upd_get {fs : List Pr} {j : Nat} {p : Pr} (h : fs[j]? = some p) (n : Int) (wh : Bool) : upd fs j n wh = fs.set j (min p.1 n, if wh then min p.2 n else p.2) := by
  unfold upd
  rw [List.getD_eq_getElem?_getD, h]
  rfl
set_option maxRecDepth 100000 in
set_option maxHeartbeats 4000000 in
theorem goes_at {W0 w : World} {h g base0 b : Nat} {le : Int} {N : List Int} {P : List Txt} {wd : Txt → Int} {fs : List Pr} (hG : Good P) (hpl : P.length ≤ 1000000) (hK : BackIs W0 g (.pointer (some ⟨b, 0, none⟩)) le N) (hT : TreeAt W0 base0 b P wd)
    (hF : FarAt w W0.heap.size h (.pointer (some ⟨g, 0, none⟩)) fs) (hl : fs.length = P.length) (hB : Below W0.heap.size W0 w) (i : Nat) (x : Txt) (hi : P[i]? = some x) (hxb : Bytes x) (hxl : x.length ≤ 1000) :
    Calls Try.prog 61 #[.pointer (some ⟨h, 0, none⟩), .int .i64 i] w fun e w' => e = .returned (.tuple #[]) ∧ FarAt w' W0.heap.size h (.pointer (some ⟨g, 0, none⟩)) (goesN P (wholeB (wd x)) x fs x.length) ∧ Below W0.heap.size W0 w' := by
  have KT : Aside0 (∀ w1, Below W0.heap.size W0 w1 → BackIs w1 g (.pointer (some ⟨b, 0, none⟩)) le N ∧ TreeAt w1 base0 b P wd) := ⟨fun w1 h => ⟨hK.below h, hT.below h⟩⟩
  have HG := Aside0.mk hG
  have HF := Aside0.mk hF
  have HB := Aside0.mk hB
  have HI := Aside0.mk hi
  have HXB := Aside0.mk hxb
  have HL := Aside0.mk hl
  have PT := Aside0.mk (path_at hG (KT.out w hB).2 (by omega) i x hi (by omega))
  have WH : Aside0 (∀ w1, Below W0.heap.size W0 w1 → Calls Try.prog 41 #[.pointer (some ⟨g, 0, none⟩), .int .i64 i] w1 fun e w' => e = .returned (.bool (wholeB (wd x))) ∧ w' = w1) := ⟨fun w1 h => whole_at (KT.out w1 h).1 (KT.out w1 h).2 i x hi⟩
  have xh := hF.ptr
  have xg := (KT.out w hB).1.tr
  obtain ⟨wh, hwh⟩ : ∃ wh, wholeB (wd x) = wh := ⟨_, rfl⟩
  rw [hwh] at WH ⊢
  clear hG hK hT hF hB hi hxb hl hwh
  go_enter Try.func61, Try.ntmps61
  go_wp2_with (go_at_call 25; (with_reducible refine PT.out.mono ?_); rintro e w1 ⟨v, rfl, ho, hb⟩; have HO := Aside0.mk (Kd.R_lower ho (below_size HB.out)); have HB1 := Aside0.mk (below_step HB.out hb); have HF1 := Aside0.mk (HF.out.below hb); obtain ⟨A1, c1, rfl, hc1, _⟩ := Kd.R_reads ho; clear ho hb)
  clear xh xg
  go_loopw [6] (fun v6 w' => ∃ (n : Nat) (j : Int), v6 = .int .i64 j ∧ n ≤ x.length ∧ Aside0 (j = (n : Int) + 1) ∧ Aside0 (FarAt w' W0.heap.size h (.pointer (some ⟨g, 0, none⟩)) (goesN P wh x fs n)) ∧ Aside0 (Kd.R (Kd.int .u8) 5 w' W0.heap.size (fun _ => True) (.slice A1 x.length c1) x) ∧ Aside0 (Below W0.heap.size W0 w')) (fun v6 _ => x.length + 1 - (intOf v6).toNat)
  case atStart => exact ⟨0, 1, rfl, Nat.zero_le _, ⟨rfl⟩, HF1, HO, HB1⟩
  case round =>
    obtain ⟨n, j, rfl, hn, HJ, H2, HR2, HB2⟩ := hrel
    have hj := HJ.out
    have j0 : 0 < j := by omega
    have j1 : j ≤ 1001 := by omega
    have wj : IntKind.i64.wrap (j + 1) = j + 1 := IntWalk.i64_in _ (by omega)
    by_cases hlt : n < x.length
    · have dj : decide (j ≤ (x.length : Int)) = true := decide_eq_true (by omega)
      have djl : j ≤ (x.length : Int) := by omega
      have hjn : j.toNat = n + 1 := by omega
      obtain ⟨_, _, hC2⟩ := Kd.R_reads' HR2.out
      have hCu := Kd.C_drop (m := n + 1) hC2 (by omega) hc1
      obtain ⟨i05, hi05, _, hsz5, _⟩ := info_parts All.info5
      have hcut := cut_from (P := Try.prog) 32 5 .i64 Try.underlying32 hi05 1 hsz5 A1 x.length c1 j (by omega) djl
      simp only [hjn, Kd.int, Kd.scalar] at hcut hCu
      have hul : (x.drop (n + 1)).length = x.length - (n + 1) := List.length_drop
      have huB : Bytes (x.drop (n + 1)) := fun y hy => HXB.out y (List.mem_of_mem_drop hy)
      have hgs : goesN P wh x fs (n + 1) = if x.drop (n + 1) ∈ P then upd (goesN P wh x fs n) (P.idxOf (x.drop (n + 1))) ((n : Int) + 1) wh else goesN P wh x fs n := rfl
      rw [← hj] at hgs
      obtain ⟨u, hu⟩ : ∃ u, x.drop (n + 1) = u := ⟨_, rfl⟩
      rw [hu] at hCu hul huB hgs
      obtain ⟨A2, hA2⟩ : ∃ A2, (if c1 = n + 1 then A1 else A1.map (·.add ((n + 1) * 1))) = A2 := ⟨_, rfl⟩
      rw [hA2] at hCu hcut
      rw [← hul] at hcut
      obtain ⟨c2, hc2⟩ : ∃ c2, c1 - (n + 1) = c2 := ⟨_, rfl⟩
      rw [hc2] at hcut
      have HCU := Aside0.mk hCu
      have HUL := Aside0.mk hul
      have HUB := Aside0.mk huB
      have KD : Aside0 (∀ m, Below W0.heap.size W0 (wr.drewN m)) := ⟨fun m => pw_below_drewN HB2.out m⟩
      have FD : Aside0 (∀ m, Calls Try.prog 32 #[.pointer (some ⟨b, 0, none⟩), .slice A2 u.length c2] (wr.drewN m) fun e w' => e = .returned (.int .i64 (place P u)) ∧ w' = wr.drewN m) := ⟨fun m => find_at HG.out (KT.out _ (KD.out m)).2 (by omega) A2 c2 u (Kd.C_drewN HCU.out m) HUB.out (by have := HUL.out; omega)⟩
      have xh := H2.out.ptr
      have xg := (KT.out wr HB2.out).1.tr
      have hlen : (goesN P wh x fs n).length = P.length := by rw [goesN_len, HL.out]
      obtain ⟨fsn, hfsn⟩ : ∃ f, goesN P wh x fs n = f := ⟨_, rfl⟩
      rw [hfsn] at H2 hlen hgs
      clear hC2 hCu hi05 hsz5 hu hul huB hA2 hc2 hfsn hj hjn
      by_cases hm : u ∈ P
      · obtain ⟨m, hmi⟩ := List.mem_iff_getElem?.1 hm
        have hpm := place_at HG.out.nodup hmi
        have hml := (List.getElem?_eq_some_iff.1 hmi).1
        rw [if_pos hm, idx_of HG.out.nodup hmi] at hgs
        rw [hpm] at FD
        obtain ⟨⟨p1, p2⟩, hp⟩ : ∃ p, fsn[m]? = some p := ⟨_, List.getElem?_eq_getElem (by omega)⟩
        rw [upd_get hp] at hgs
        simp only at hgs
        have HGS := Aside0.mk hgs
        have m0 : decide ((m : Int) < 0) = false := decide_eq_false (by omega)
        have k1 : ((m : Nat) : Int) < (fsn.length : Int) := by omega
        have k0 : (0 : Int) ≤ (m : Int) := by omega
        clear hm hmi hpm hgs hlen
        go_upto_region 5 with (fail)
        go_quiet ((go_at_call 32; exact Calls.quiet_of_same (FD.out _)))
        have H3 := Aside0.mk (H2.out.drewN nq)
        have HR3 := Aside0.mk (Kd.R_drewN HR2.out nq)
        have HB3 := Aside0.mk (KD.out nq)
        clear xh xg H2 HR2 HB2 hcut
        obtain ⟨W3, hW3⟩ : ∃ W, wr.drewN nq = W := ⟨_, rfl⟩
        rw [hW3] at H3 HR3 HB3 ⊢
        clear hW3
        obtain ⟨f, cap, x0, x1, ⟨cur, hcur⟩, hr, hput, hbf⟩ := H3.out.reads (by omega)
        obtain ⟨y0, y1, z0, z1⟩ := hr m _ hp
        have hput0 := hput m _ hp 0 (by omega) (min p1 j) (min p1 j, p2) (.inl ⟨rfl, rfl⟩)
        have HP0 := Aside0.mk hput0
        have HCUR := Aside0.mk hcur
        clear hr hput hput0 hcur
        have LE0 := Aside0.mk (less_at (w := W3) f (m * 2) p1 j y0 z0)
        have HSET : Aside0 ((fsn.set m (min p1 j, p2))[m]? = some (min p1 j, p2)) := ⟨by rw [List.getElem?_set_self (by omega)]⟩
        clear hp
        cases wh with
        | false =>
          go_wp2_with (first
            | (go_at_call 64; (with_reducible refine LE0.out.mono ?_); rintro e w4 ⟨rfl, m4, hw⟩; have H4 : Aside0 (FarAt w4 W0.heap.size h (.pointer (some ⟨g, 0, none⟩)) (fsn.set m (min p1 j, p2))) := ⟨by rw [hw, set_drewN]; exact HP0.out.drewN m4⟩; have HR4 : Aside0 (Kd.R (Kd.int .u8) 5 w4 W0.heap.size (fun _ => True) (.slice A1 x.length c1) x) := ⟨by rw [hw]; exact Kd.R_set (Kd.R_drewN HR3.out m4) (blk_drewN HCUR.out m4) ty80 _ _⟩; have HB4 : Aside0 (Below W0.heap.size W0 w4) := ⟨by rw [hw]; exact below_setB (pw_below_drewN HB3.out m4) hbf⟩; have xh4 := H4.out.ptr; clear hw)
            | (go_at_call 41; (with_reducible refine (WH.out _ HB4.out).mono ?_); rintro e w' ⟨rfl, hw⟩; subst hw))
          go_roundw
          case rel => exact ⟨n + 1, j + 1, by rfl, by omega, ⟨by have := HJ.out; omega⟩, ⟨by rw [HGS.out]; exact H4.out⟩, HR4, HB4⟩
          case measure => simp [intOf]; omega
        | true =>
          go_wp2_with (first
            | (go_at_call 64; (with_reducible refine LE0.out.mono ?_); rintro e w4 ⟨rfl, m4, hw⟩; have H4 : Aside0 (FarAt w4 W0.heap.size h (.pointer (some ⟨g, 0, none⟩)) (fsn.set m (min p1 j, p2))) := ⟨by rw [hw, set_drewN]; exact HP0.out.drewN m4⟩; have HR4 : Aside0 (Kd.R (Kd.int .u8) 5 w4 W0.heap.size (fun _ => True) (.slice A1 x.length c1) x) := ⟨by rw [hw]; exact Kd.R_set (Kd.R_drewN HR3.out m4) (blk_drewN HCUR.out m4) ty80 _ _⟩; have HB4 : Aside0 (Below W0.heap.size W0 w4) := ⟨by rw [hw]; exact below_setB (pw_below_drewN HB3.out m4) hbf⟩; have xh4 := H4.out.ptr; clear hw; obtain ⟨f4, cap4, _, x14, ⟨cur4, hcur4⟩, hr4, hput4, hbf4⟩ := H4.out.reads (by rw [List.length_set]; omega); obtain ⟨_, y14, _, z14⟩ := hr4 m (min p1 j, p2) HSET.out; have HP1 := Aside0.mk (hput4 m _ HSET.out 1 (by omega) (min p2 j) (min p1 j, min p2 j) (.inr ⟨rfl, rfl⟩)); have HCUR4 := Aside0.mk hcur4; have LE1 := Aside0.mk (less_at (w := w4) f4 (m * 2 + 1) p2 j y14 z14); rw [List.length_set] at x14; clear hr4 hput4 hcur4)
            | (go_at_call 41; (with_reducible refine (WH.out _ HB4.out).mono ?_); rintro e w' ⟨rfl, hw⟩; subst hw)
            | (go_at_call 64; (with_reducible refine LE1.out.mono ?_); rintro e w5 ⟨rfl, m5, hw⟩; have H5 : Aside0 (FarAt w5 W0.heap.size h (.pointer (some ⟨g, 0, none⟩)) ((fsn.set m (min p1 j, p2)).set m (min p1 j, min p2 j))) := ⟨by rw [hw, set_drewN]; exact HP1.out.drewN m5⟩; have HR5 : Aside0 (Kd.R (Kd.int .u8) 5 w5 W0.heap.size (fun _ => True) (.slice A1 x.length c1) x) := ⟨by rw [hw]; exact Kd.R_set (Kd.R_drewN HR4.out m5) (blk_drewN HCUR4.out m5) ty80 _ _⟩; have HB5 : Aside0 (Below W0.heap.size W0 w5) := ⟨by rw [hw]; exact below_setB (pw_below_drewN HB4.out m5) hbf4⟩; clear hw))
          go_roundw
          case rel => exact ⟨n + 1, j + 1, by rfl, by omega, ⟨by have := HJ.out; omega⟩, ⟨by rw [HGS.out]; have h5 := H5.out; rw [List.set_set] at h5; exact h5⟩, HR5, HB5⟩
          case measure => simp [intOf]; omega
      · have hpm : place P u = -1 := place_no hm
        rw [if_neg hm] at hgs
        rw [hpm] at FD
        have HGS := Aside0.mk hgs
        clear hm hpm hgs hlen
        go_upto_region 5 with (fail)
        go_quiet ((go_at_call 32; exact Calls.quiet_of_same (FD.out _)))
        have H3 := Aside0.mk (H2.out.drewN nq)
        have HR3 := Aside0.mk (Kd.R_drewN HR2.out nq)
        have HB3 := Aside0.mk (KD.out nq)
        clear xh xg H2 HR2 HB2 hcut
        go_wp2
        go_roundw
        case rel => exact ⟨n + 1, j + 1, by rfl, by omega, ⟨by have := HJ.out; omega⟩, ⟨by rw [HGS.out]; exact H3.out⟩, HR3, HB3⟩
        case measure => simp [intOf]; omega
    · obtain rfl : n = x.length := by omega
      have dj : decide (j ≤ (x.length : Int)) = false := decide_eq_false (by omega)
      go_wp2
      first | go_end0 | ((try simp only [Exit.inBlock, Exit.then]); refine bodyPost_ret (results_none rfl _ _ _) rfl ?_)
      exact ⟨rfl, H2.out, HB2.out⟩
end Go.Proofs.Ytifbcboefopioaa.Tri

/-! By hand: shifts.Build. No condition. -/
set_option linter.unusedVariables false
set_option linter.unusedSimpArgs false
namespace Go.Proofs.Ytifbcboefopioaa.Tri
open Go.RowKit Go.Maps Go.Proofs.YtifbcboefopioaaW.PrintWords Go.Proofs.YtifbcboefopioaaW.PrintLast Go.Proofs.YtifbcboefopioaaW.PrintMore Go.Proofs.Ytifbcboefopioaa.Kit Go.Proofs.Ytifbcboefopioaa.All
attribute [local go_sem] max2_int min2_int max_two min_two max_three min_three max_four min_four

theorem info80 : (Try.prog.info? 80).map (fun i => (i.zero, i.size, i.bytes)) = some (some (.agg #[.int .i64 0, .int .i64 0]), 2, 16) := by kernel_rfl
theorem new_two (W : World) (x0 x1 : Value) (t : TypeId) : ∀ (j : Nat) (u : Value), [x0, x1][j]? = some u → (W.alloc (.cells #[x0, x1] t)).cell? ((⟨W.heap.size, 0, none⟩ : Addr).add j) = some u := by
  intro j u hj
  rw [add_plain, World.cell?_alloc_mark]
  simpa using hj
/-- The struct, its row named. -/
def FarV (w : World) (base h : Nat) (gp v : Value) (fs : List Pr) : Prop := base ≤ h ∧ w.heap[h]? = some (.cells #[gp, v] 79) ∧ w.ownsRow base 80 2 v fs.length (pcells fs)
theorem stays_farV (base h : Nat) (gp v : Value) (fs : List Pr) : Stays (fun w => FarV w base h gp v fs) := fun w w' H hb => ⟨H.1, (hb.block h (Array.getElem?_eq_some_iff.1 H.2.1).1).trans H.2.1, ownsRow_below H.2.2 hb⟩
theorem stays_far (base h : Nat) (gp : Value) (fs : List Pr) : Stays (fun w => FarAt w base h gp fs) := fun w w' H hb => H.below hb
theorem far_ne {w : World} {base h n : Nat} {v : Value} {xs : List Value} {cs : Array Value} (hh : w.heap[h]? = some (.cells cs 79)) (ho : w.ownsRow base 80 2 v n xs) : some h ≠ v.ownBlock := by
  rcases ho.2 with ⟨rfl, _⟩ | ⟨f, cap, cur, rfl, _, hf, _⟩
  · simp [Value.ownBlock]
  · intro e
    have e2 : h = f := by simpa [Value.ownBlock] using e
    subst e2
    rw [hh] at hf
    injection hf with e
    injection e with _ e
    revert e
    decide
theorem far_grow {W0 w w1 : World} {h : Nat} {gp v v2 : Value} {fs : List Pr} {p : Pr} {X : Obj} (H : FarV w W0.heap.size h gp v fs) (hB : Below W0.heap.size W0 w) (hown : w1.ownsRow W0.heap.size 80 2 v2 (fs.length + 1) (pcells fs ++ [.int .i64 p.1, .int .i64 p.2])) (hg : (w.alloc X).grownBy w1 v.ownBlock) :
    (w1.cell? ⟨h, 1, none⟩ = some v ∧ w1.frozen? ⟨h, 1, none⟩ = false) ∧ FarAt (w1.setCell ⟨h, 1, none⟩ v2) W0.heap.size h gp (fs ++ [p]) ∧ Below W0.heap.size W0 (w1.setCell ⟨h, 1, none⟩ v2) := by
  obtain ⟨h1, h2, h3⟩ := H
  have hne := far_ne h2 h3
  have a2 : (w.alloc X).heap[h]? = some (.cells #[gp, v] 79) := blk_alloc h2 X
  have b2 : w1.heap[h]? = some (.cells #[gp, v] 79) := blk_grown a2 hg hne
  obtain ⟨_, x1, x2⟩ := block_cells b2
  have hne2 := far_ne b2 hown
  have hgs : w1.grownBy (w1.setCell ⟨h, 1, none⟩ v2) (some h) := ⟨rfl, rfl, rfl, by simp, fun k _ hk => heap_setCell_other w1 ⟨h, 1, none⟩ k v2 (fun e => hk (by rw [e]))⟩
  refine ⟨⟨x1, x2 1⟩, ⟨v2, h1, blk_put b2 1 v2 rfl, ?_⟩, ?_⟩
  · rw [pcells_snoc, List.length_append]
    exact hown.kept hgs (.inr hne2.symm)
  · have hsz : W0.heap.size ≤ (w.alloc X).heap.size := by
      have := below_size hB
      simp
      omega
    exact ((hB.alloc (below_size hB) X).grown hg hsz (fun k hk => (h3.lt k hk).1)).setCell h1 _
set_option maxRecDepth 100000 in
set_option maxHeartbeats 8000000 in
theorem shbuild_at (W0 : World) (g base0 b : Nat) (T P : List Txt) (hP : P = pathsL T) (hK : BackIs W0 g (.pointer (some ⟨b, 0, none⟩)) (leastN T) (nearN T)) (hT : TreeAt W0 base0 b P (place T)) (hpl : P.length ≤ 1000) (hPB : ∀ x ∈ P, Bytes x) (hPS : ∀ x ∈ P, x.length ≤ 1000) (hle : 1 ≤ leastN T) :
    Calls Try.prog 47 #[.pointer (some ⟨g, 0, none⟩)] W0 fun e w' => ∃ h, e = .returned (.pointer (some ⟨h, 0, none⟩)) ∧ FarAt w' W0.heap.size h (.pointer (some ⟨g, 0, none⟩)) (farsN T P) ∧ Below W0.heap.size W0 w' := by
  have hG : Good P := by rw [hP]; exact pathsL_good T
  have KT : Aside0 (∀ w1, Below W0.heap.size W0 w1 → BackIs w1 g (.pointer (some ⟨b, 0, none⟩)) (leastN T) (nearN T) ∧ TreeAt w1 base0 b P (place T)) := ⟨fun w1 h => ⟨hK.below h, hT.below h⟩⟩
  have GO : Aside0 (∀ (w : World) (h : Nat) (fs : List Pr) (i : Nat) (x : Txt), FarAt w W0.heap.size h (.pointer (some ⟨g, 0, none⟩)) fs → fs.length = P.length → Below W0.heap.size W0 w → P[i]? = some x → Calls Try.prog 61 #[.pointer (some ⟨h, 0, none⟩), .int .i64 i] w fun e w' => e = .returned (.tuple #[]) ∧ FarAt w' W0.heap.size h (.pointer (some ⟨g, 0, none⟩)) (goesN P (wholeB (place T x)) x fs x.length) ∧ Below W0.heap.size W0 w') :=
    ⟨fun w h fs i x hF hl hB hi => goes_at hG (by omega) hK hT hF hl hB i x hi (hPB x (List.mem_of_getElem? hi)) (hPS x (List.mem_of_getElem? hi))⟩
  have HG := Aside0.mk hG
  have hfar : farsN T P = downN P (goesA P (fun x => wholeB (place T x)) (List.replicate P.length (leastN T, leastN T)) P.length) P.length := rfl
  obtain ⟨le, hlee⟩ : ∃ le, leastN T = le := ⟨_, rfl⟩
  rw [hlee] at KT hle hfar
  have HFAR := Aside0.mk hfar
  have p0 := hG.pos
  have ND : Aside0 (∀ w1, Below W0.heap.size W0 w1 → Calls Try.prog 23 #[.pointer (some ⟨b, 0, none⟩)] w1 fun e w' => e = .returned (.int .i64 P.length) ∧ w' = w1) := ⟨fun w1 h => nodes_at (KT.out w1 h).2⟩
  have LSB : Aside0 (∀ w1, Below W0.heap.size W0 w1 → Calls Try.prog 37 #[.pointer (some ⟨g, 0, none⟩)] w1 fun e w' => e = .returned (.int .i64 le) ∧ w' = w1) := ⟨fun w1 h => least_at (KT.out w1 h).1⟩
  have F0 : FarAt (W0.alloc (.cells #[.pointer (some ⟨g, 0, none⟩), .slice none 0 0] 79)) W0.heap.size W0.heap.size (.pointer (some ⟨g, 0, none⟩)) [] := ⟨.slice none 0 0, Nat.le_refl _, blk_new W0 _, ⟨rfl, .inl ⟨rfl, rfl⟩⟩⟩
  have FF0 := Aside0.mk F0
  have B0 : Aside0 (Below W0.heap.size W0 (W0.alloc (.cells #[.pointer (some ⟨g, 0, none⟩), .slice none 0 0] 79))) := ⟨below_alloc (Below.refl _ _) _⟩
  have le0 : (le == 0) = false := beq_eq_false_iff_ne.2 (by omega)
  clear hP hK hT hG hfar hlee F0 hPB hPS
  go_enter Try.func47, Try.ntmps47
  go_upto_region 2 with (fail)
  obtain ⟨W1, hW1⟩ : ∃ W, W0.alloc (.cells #[.pointer (some ⟨g, 0, none⟩), .slice none 0 0] 79) = W := ⟨_, rfl⟩
  obtain ⟨h, hh⟩ : ∃ h, W0.heap.size = h := ⟨_, rfl⟩
  have HH : Aside0 (W0.heap.size = h) := ⟨hh⟩
  rw [hW1] at FF0 B0 ⊢
  have FF1 : Aside0 (FarAt W1 W0.heap.size h (.pointer (some ⟨g, 0, none⟩)) []) := ⟨by rw [← hh]; exact FF0.out⟩
  rw [hh]
  have xg := (KT.out _ B0.out).1.tr
  clear hW1 hh FF0
  go_wp2_with (first
    | (go_at_call 37; (with_reducible refine (LSB.out _ B0.out).mono ?_); rintro e w' ⟨rfl, hw⟩; subst hw)
    | (go_at_call 23; (with_reducible refine (ND.out _ B0.out).mono ?_); rintro e w' ⟨rfl, hw⟩; subst hw))
  clear xg
  go_loopw [18] (fun v18 w' => ∃ i : Nat, v18 = .int .i64 i ∧ i ≤ P.length ∧ Aside0 (FarAt w' W0.heap.size h (.pointer (some ⟨g, 0, none⟩)) (List.replicate i (le, le))) ∧ Aside0 (Below W0.heap.size W0 w')) (fun v18 _ => P.length - (intOf v18).toNat)
  case atStart => exact ⟨0, rfl, Nat.zero_le _, FF1, B0⟩
  case round =>
    obtain ⟨i, rfl, hi, H2, HB2⟩ := hrel
    by_cases hlt : i < P.length
    · have k1 : ((i : Nat) : Int) < (P.length : Int) := by omega
      have wk : IntKind.i64.wrap ((i : Int) + 1) = (i : Int) + 1 := IntWalk.i64_in _ (by omega)
      have hfl : (List.replicate i (le, le)).length = i := List.length_replicate ..
      have hrep : List.replicate (i + 1) (le, le) = List.replicate i (le, le) ++ [(le, le)] := List.replicate_succ'
      obtain ⟨fs, hfs⟩ : ∃ fs, List.replicate i (le, le) = fs := ⟨_, rfl⟩
      rw [hfs] at H2 hfl hrep
      have HREP := Aside0.mk hrep
      obtain ⟨v, hv⟩ := H2.out
      obtain ⟨G, SG, G2, GG⟩ := stays_pack ((stays_below W0).and (stays_farV W0.heap.size h (.pointer (some ⟨g, 0, none⟩)) v fs)) ⟨HB2.out, hv⟩
      have XV : Aside0 (∀ w1, G w1 → w1.cell? ⟨h, 1, none⟩ = some v) := ⟨fun w1 h0 => (block_cells (GG.out w1 h0).2.2.1).2.1⟩
      have LS := Aside0.mk (fun (w1 : World) (h0 : G w1) => LSB.out w1 (GG.out w1 h0).1)
      have GD := Aside0.mk (stays_drew SG.out G2.out)
      have Q1 : Aside0 (fs.length + 1 ≤ maxLen) := ⟨by unfold maxLen; omega⟩
      have Q2 : Aside0 ((fs.length + 1) * 16 ≤ 140737488355328) := ⟨by omega⟩
      have Q3 : Aside0 (W0.heap.size ≤ (wr.drew.alloc (.cells #[.int .i64 le, .int .i64 le] 80)).heap.size) := ⟨by have := below_size (GG.out _ GD.out).1; simp; simp at this; omega⟩
      obtain ⟨i0, hi0, hz0, hz1, hz2⟩ := info_parts info80
      clear hfl hfs hrep H2 HB2 hv
      go_upto_region 6 with (fail)
      refine start_ (n := 15) (S := G) (ds := [11, 14]) #[false, false, false, false, false, false, false, false, false, false, false, false, false, false, false] (by kernel_rfl) rfl rfl GD.out (fun _ => ?_)
      refine pure_ (i := 0) (N := (some 20)) (v := ?_) (a' := _) #[true, false, false, false, false, false, false, false, false, false, false, false, false, false, false] rfl rfl (by kernel_rfl) (fun _ _ _ h => h) (Or.inl ⟨by rfl, ?_⟩) rfl ?_
      rotate_left
      · intro w'; go_simp; with_reducible rfl
      simp only [Act.put, List.setIfInBounds_toArray, List.set_cons_zero, List.set_cons_succ]
      refine pure_ (i := 1) (N := (some 21)) (v := ?_) (a' := _) #[true, true, false, false, false, false, false, false, false, false, false, false, false, false, false] rfl rfl (by kernel_rfl) (fun _ _ _ h => h) (Or.inl ⟨by rfl, ?_⟩) rfl ?_
      rotate_left
      · intro w'; go_simp; with_reducible rfl
      simp only [Act.put, List.setIfInBounds_toArray, List.set_cons_zero, List.set_cons_succ]
      refine pure_ (i := 2) (N := (some 22)) (v := ?_) (a' := _) #[true, true, true, false, false, false, false, false, false, false, false, false, false, false, false] rfl rfl (by kernel_rfl) (fun _ _ _ h => h) (Or.inl ⟨by rfl, ?_⟩) rfl ?_
      rotate_left
      · intro w'; go_simp; with_reducible rfl
      simp only [Act.put, List.setIfInBounds_toArray, List.set_cons_zero, List.set_cons_succ]
      refine pure_ (i := 3) (N := (some 23)) (v := ?_) (a' := _) #[true, true, true, true, false, false, false, false, false, false, false, false, false, false, false] rfl rfl (by kernel_rfl) (fun _ _ _ h => h) (Or.inl ⟨by rfl, ?_⟩) rfl ?_
      rotate_left
      · intro w'; go_simp; with_reducible rfl
      simp only [Act.put, List.setIfInBounds_toArray, List.set_cons_zero, List.set_cons_succ]
      refine take_ (i := 4) (N := (some 24)) (v := ?_) (a' := _) #[true, true, true, true, true, false, false, false, false, false, false, false, false, false, false] rfl rfl (by kernel_rfl) (fun _ _ _ h => h) (Or.inl ⟨by rfl, ?_⟩) GD.out rfl ?_
      rotate_left
      · intro w' s_; have f0_ := XV.out w' s_; go_simp; with_reducible rfl
      simp only [Act.put, List.setIfInBounds_toArray, List.set_cons_zero, List.set_cons_succ]
      refine pure_ (i := 5) (N := (some 25)) (v := ?_) (a' := _) #[true, true, true, true, true, true, false, false, false, false, false, false, false, false, false] rfl rfl (by kernel_rfl) (fun _ _ _ h => h) (Or.inl ⟨by rfl, ?_⟩) rfl ?_
      rotate_left
      · intro w'; go_simp; with_reducible rfl
      simp only [Act.put, List.setIfInBounds_toArray, List.set_cons_zero, List.set_cons_succ]
      refine pure_ (i := 7) (N := (some 27)) (v := ?_) (a' := _) #[true, true, true, true, true, true, false, true, false, false, false, false, false, false, false] rfl rfl (by kernel_rfl) (fun _ _ _ h => h) (Or.inl ⟨by rfl, ?_⟩) rfl ?_
      rotate_left
      · intro w'; go_simp; with_reducible rfl
      simp only [Act.put, List.setIfInBounds_toArray, List.set_cons_zero, List.set_cons_succ]
      refine one_ (i := 6) (N := (some 26)) #[true, true, true, true, true, true, true, true, false, false, false, false, false, false, false] rfl rfl (by kernel_rfl) (by decide) (fun K hK => ?_)
      go_simp
      (go_at_call 37; (with_reducible refine (LS.out _ GD.out).mono ?_); rintro e w' ⟨rfl, hw⟩; subst hw)
      refine hK.out _ _ GD.out (fun _ => ?_)
      clear hK K
      try simp only [Act.put, List.setIfInBounds_toArray, List.set_cons_zero, List.set_cons_succ]
      refine one_ (i := 8) (N := (some 28)) #[true, true, true, true, true, true, true, true, true, false, false, false, false, false, false] rfl rfl (by kernel_rfl) (by decide) (fun K hK => ?_)
      go_simp
      (go_at_call 37; (with_reducible refine (LS.out _ GD.out).mono ?_); rintro e w' ⟨rfl, hw⟩; subst hw)
      refine hK.out _ _ GD.out (fun _ => ?_)
      clear hK K
      try simp only [Act.put, List.setIfInBounds_toArray, List.set_cons_zero, List.set_cons_succ]
      refine pure_ (i := 9) (N := (some 29)) (v := ?_) (a' := _) #[true, true, true, true, true, true, true, true, true, true, false, false, false, false, false] rfl rfl (by kernel_rfl) (fun _ _ _ h => h) (Or.inl ⟨by rfl, ?_⟩) rfl ?_
      rotate_left
      · intro w'; go_simp; with_reducible rfl
      simp only [Act.put, List.setIfInBounds_toArray, List.set_cons_zero, List.set_cons_succ]
      refine one_ (i := 10) (N := (some 30)) #[true, true, true, true, true, true, true, true, true, true, true, false, false, false, false] rfl rfl (by kernel_rfl) (by decide) (fun K hK => ?_)
      go_simp
      have G6 := Aside0.mk (SG.out _ _ GD.out (below_alloc (Below.refl _ _) (.cells #[.int .i64 le, .int .i64 le] 80)))
      refine hK.out _ _ G6.out (fun _ => ?_)
      clear hK K
      try simp only [Act.put, List.setIfInBounds_toArray, List.set_cons_zero, List.set_cons_succ]
      refine last_ (i := 11) (N := (some 31)) #[true, true, true, true, true, true, true, true, true, true, true, true, false, false, false] rfl rfl (by kernel_rfl) (by decide) (fun K hK => ?_)
      refine step_own rfl (.tmp 24) (.tmp 30) 77 rfl W0.heap.size 80 i0 _ 2 16 Try.underlying77 hi0 hz0 hz1 hz2 rfl (by decide) v fs.length (pcells fs) rfl (World.ownsRow.alloc (GG.out _ GD.out).2.2.2 (.cells #[.int .i64 le, .int .i64 le] 80)) ⟨wr.drew.heap.size, 0, none⟩ 1 1 [.int .i64 le, .int .i64 le] rfl rfl (new_two wr.drew _ _ _) (by intro u hu; simp at hu; subst hu; rfl) Q1.out Q2.out Q3.out ?_
      intro v2 w2 hown2 hgrow2 hn_
      obtain ⟨f2, cap2, rfl⟩ := far_form hown2 (Nat.succ_pos _)
      have FG := Aside0.mk (far_grow (p := (le, le)) (GG.out _ GD.out).2 (GG.out _ GD.out).1 hown2 hgrow2)
      obtain ⟨c2, z2⟩ := FG.out.1
      clear hn_ hown2 hgrow2
      refine hK.out _ _ ?_
      clear hK K
      try simp only [Act.put, List.setIfInBounds_toArray, List.set_cons_zero, List.set_cons_succ]
      refine pure_ (i := 12) (N := (some 32)) (v := ?_) (a' := _) #[true, true, true, true, true, true, true, true, true, true, true, true, true, false, false] rfl rfl (by kernel_rfl) (fun _ _ _ h => h) (Or.inl ⟨by rfl, ?_⟩) rfl ?_
      rotate_left
      · intro w'; go_simp; with_reducible rfl
      simp only [Act.put, List.setIfInBounds_toArray, List.set_cons_zero, List.set_cons_succ]
      refine pure_ (i := 13) (N := (some 33)) (v := ?_) (a' := _) #[true, true, true, true, true, true, true, true, true, true, true, true, true, true, false] rfl rfl (by kernel_rfl) (fun _ _ _ h => h) (Or.inl ⟨by rfl, ?_⟩) rfl ?_
      rotate_left
      · intro w'; go_simp; with_reducible rfl
      simp only [Act.put, List.setIfInBounds_toArray, List.set_cons_zero, List.set_cons_succ]
      refine last_ (i := 14) (N := none) #[true, true, true, true, true, true, true, true, true, true, true, true, true, true, true] rfl rfl (by kernel_rfl) (by decide) (fun K hK => ?_)
      go_simp
      refine hK.out _ _ ?_
      clear hK K
      try simp only [Act.put, List.setIfInBounds_toArray, List.set_cons_zero, List.set_cons_succ]
      refine done_ (by kernel_rfl) ?_
      go_wp2
      go_roundw
      case rel => exact ⟨i + 1, by go_num, by omega, ⟨by rw [HREP.out]; exact FG.out.2.1⟩, ⟨FG.out.2.2⟩⟩
      case measure => simp [intOf]; omega
    · obtain rfl : i = P.length := by omega
      have k1 : ¬ ((P.length : Nat) : Int) < (P.length : Int) := by omega
      have hrl : (List.replicate P.length (le, le)).length = P.length := List.length_replicate ..
      obtain ⟨fs0, hfs0⟩ : ∃ fs, List.replicate P.length (le, le) = fs := ⟨_, rfl⟩
      have HF2 := HFAR.out
      rw [hfs0] at H2 hrl HF2
      replace HFAR := Aside0.mk HF2
      have hA1 : goesA P (fun x => wholeB (place T x)) fs0 1 = fs0 := by
        have hD : P.getD 0 [] = [] := by rw [List.getD_eq_getElem?_getD, HG.out.root]; rfl
        rw [goesA, hD]
        rfl
      have HA1 := Aside0.mk hA1
      have HRL := Aside0.mk hrl
      clear hfs0 HF2 hA1 hrl k1 hi hlt
      go_wp2
      go_loopw [4] (fun v4 w' => ∃ i : Nat, v4 = .int .i64 i ∧ 1 ≤ i ∧ i ≤ P.length ∧ Aside0 (FarAt w' W0.heap.size h (.pointer (some ⟨g, 0, none⟩)) (goesA P (fun x => wholeB (place T x)) fs0 i)) ∧ Aside0 (Below W0.heap.size W0 w')) (fun v4 _ => P.length - (intOf v4).toNat)
      case atStart => exact ⟨1, rfl, Nat.le_refl _, p0, ⟨by rw [HA1.out]; exact H2.out⟩, HB2⟩
      case round =>
        obtain ⟨i, rfl, hi1, hi, H3, HB3⟩ := hrel
        have xg := (KT.out _ HB3.out).1.tr
        by_cases hlt : i < P.length
        · have k1 : ((i : Nat) : Int) < (P.length : Int) := by omega
          have wk : IntKind.i64.wrap ((i : Int) + 1) = (i : Int) + 1 := IntWalk.i64_in _ (by omega)
          obtain ⟨x, hx⟩ : ∃ x, P[i]? = some x := ⟨_, List.getElem?_eq_getElem hlt⟩
          have hD : P.getD i [] = x := by rw [List.getD_eq_getElem?_getD, hx]; rfl
          have GC := Aside0.mk (GO.out wr h _ i x H3.out (by rw [goesA_len, HRL.out]) HB3.out hx)
          have HN : Aside0 (goesA P (fun x => wholeB (place T x)) fs0 (i + 1) = goesN P (wholeB (place T x)) x (goesA P (fun x => wholeB (place T x)) fs0 i) x.length) := ⟨by rw [goesA, hD]⟩
          clear hx hD
          go_wp2_with (first
            | (go_at_call 23; (with_reducible refine (ND.out _ HB3.out).mono ?_); rintro e w' ⟨rfl, hw⟩; subst hw)
            | (go_at_call 61; (with_reducible refine GC.out.mono ?_); rintro e w4 ⟨rfl, hf4, hb4⟩; have H4 := Aside0.mk hf4; have HB4 := Aside0.mk hb4; clear hf4 hb4))
          go_roundw
          case rel => exact ⟨i + 1, by go_num, by omega, by omega, ⟨by rw [HN.out]; exact H4.out⟩, HB4⟩
          case measure => simp [intOf]; omega
        · obtain rfl : i = P.length := by omega
          have k1 : ¬ ((P.length : Nat) : Int) < (P.length : Int) := by omega
          obtain ⟨fs1, hfs1⟩ : ∃ fs, goesA P (fun x => wholeB (place T x)) fs0 P.length = fs := ⟨_, rfl⟩
          have hl1 : fs1.length = P.length := by rw [← hfs1, goesA_len, HRL.out]
          have HF3 := HFAR.out
          rw [hfs1] at H3 HF3
          replace HFAR := Aside0.mk HF3
          have HL1 := Aside0.mk hl1
          clear hfs1 HF3 hl1
          go_wp2_with (go_at_call 23; (with_reducible refine (ND.out _ HB3.out).mono ?_); rintro e w' ⟨rfl, hw⟩; subst hw)
          clear xg k1
          go_loopw [5] (fun v5 w' => ∃ i : Nat, v5 = .int .i64 i ∧ 1 ≤ i ∧ i ≤ P.length ∧ Aside0 (FarAt w' W0.heap.size h (.pointer (some ⟨g, 0, none⟩)) (downN P fs1 i)) ∧ Aside0 (Below W0.heap.size W0 w')) (fun v5 _ => P.length - (intOf v5).toNat)
          case atStart => exact ⟨1, rfl, Nat.le_refl _, p0, ⟨by rw [show downN P fs1 1 = fs1 from rfl]; exact H3.out⟩, HB3⟩
          case round =>
            obtain ⟨i, rfl, hi1, hi, H4, HB4⟩ := hrel
            have xg := (KT.out _ HB4.out).1.tr
            by_cases hlt : i < P.length
            · have k2 : ((i : Nat) : Int) < (P.length : Int) := by omega
              have wk : IntKind.i64.wrap ((i : Int) + 1) = (i : Int) + 1 := IntWalk.i64_in _ (by omega)
              obtain ⟨x, hx⟩ : ∃ x, P[i]? = some x := ⟨_, List.getElem?_eq_getElem hlt⟩
              have hD : P.getD i [] = x := by rw [List.getD_eq_getElem?_getD, hx]; rfl
              obtain ⟨hxn, j, hj, hjx⟩ := HG.out.up i x hx (by omega)
              have hpar : par P x = (j : Int) := by rw [par, if_neg hxn]; exact place_at HG.out.nodup hjx
              have PR : Aside0 (Calls Try.prog 27 #[.pointer (some ⟨b, 0, none⟩), .int .i64 i] wr.drew fun e w' => e = .returned (.int .i64 j) ∧ w' = wr.drew) := ⟨by
                have := parent_at (KT.out wr.drew (below_drew HB4.out)).2 i x hx
                rwa [hpar] at this⟩
              have hdl : (downN P fs1 i).length = P.length := by rw [downN_len, HL1.out]
              have hnx : downN P fs1 (i + 1) = (downN P fs1 i).set i (((downN P fs1 i).getD i (0, 0)).1, min ((downN P fs1 i).getD i (0, 0)).2 ((downN P fs1 i).getD j (0, 0)).2) := by
                rw [downN, if_neg (by omega), hD, hpar, Int.toNat_natCast]
              obtain ⟨fs, hfs⟩ : ∃ fs, downN P fs1 i = fs := ⟨_, rfl⟩
              rw [hfs] at H4 hdl hnx
              obtain ⟨⟨p1, p2⟩, hp⟩ : ∃ p, fs[i]? = some p := ⟨_, List.getElem?_eq_getElem (by omega)⟩
              obtain ⟨⟨q1, q2⟩, hq⟩ : ∃ p, fs[j]? = some p := ⟨_, List.getElem?_eq_getElem (by omega)⟩
              rw [List.getD_eq_getElem?_getD, List.getD_eq_getElem?_getD, hp, hq] at hnx
              simp only [Option.getD_some] at hnx
              have k1 : ((i : Nat) : Int) < (fs.length : Int) := by omega
              have j1 : ((j : Nat) : Int) < (fs.length : Int) := by omega
              have i0 : (0 : Int) ≤ (i : Int) := by omega
              have j0 : (0 : Int) ≤ (j : Int) := by omega
              obtain ⟨f, cap, _, x1, _, hr, hput, hbf⟩ := H4.out.reads (by omega)
              obtain ⟨_, y1, _, z1⟩ := hr i _ hp
              obtain ⟨_, y2, _, _⟩ := hr j _ hq
              obtain ⟨mm, hmm⟩ : ∃ mm, min p2 q2 = mm := ⟨_, rfl⟩
              have hmi : (if q2 < p2 then q2 else p2) = mm := by rw [min_ite, hmm]
              rw [hmm] at hnx
              have HP : Aside0 (FarAt (wr.drew.setCell ⟨f, i * 2 + 1, none⟩ (.int .i64 mm)) W0.heap.size h (.pointer (some ⟨g, 0, none⟩)) (fs.set i (p1, mm))) := ⟨by
                have h0 := (hput i _ hp 1 (by omega) mm (p1, mm) (.inr ⟨rfl, rfl⟩)).drewN 1
                rw [← set_drewN] at h0
                exact h0⟩
              have HNX := Aside0.mk hnx
              have HB5 : Aside0 (Below W0.heap.size W0 (wr.drew.setCell ⟨f, i * 2 + 1, none⟩ (.int .i64 mm))) := ⟨below_setB (below_drew HB4.out) hbf⟩
              clear hx hD hxn hj hjx hpar hfs hnx hp hq hr hput hmm hdl
              go_upto_region 15 with (go_at_call 23; (with_reducible refine (ND.out _ HB4.out).mono ?_); rintro e w' ⟨rfl, hw⟩; have hw2 := hw.symm; clear hw; subst hw2)
              refine wp_region_still_tail 28 (by kernel_rfl) (by kernel_rfl) ?_
              simp only [List.take_succ_cons, List.take_zero, List.drop_succ_cons, List.drop_zero]
              repeat still_step
              still_call PR.out
              repeat still_step
              refine wpStill_nil ?_
              change wpList _ _ _ _ _ wr.drew
              have y12 : wr.drew.cell? ⟨f, i * 2 + 1, none⟩ = some (.int .i64 p2) := y1
              have z12 : wr.drew.frozen? ⟨f, i * 2 + 1, none⟩ = false := z1
              clear y1 z1 y2 x1 xg hmi PR H4 HB4
              obtain ⟨W2, hW2⟩ : ∃ W, wr.drew = W := ⟨_, rfl⟩
              rw [hW2] at HP HB5 y12 z12 ⊢
              clear hW2
              go_wp2
              go_roundw
              case rel => exact ⟨i + 1, by go_num, by omega, by omega, ⟨by rw [HNX.out]; exact HP.out⟩, HB5⟩
              case measure => simp [intOf]; omega
            · obtain rfl : i = P.length := by omega
              have k1 : ¬ ((P.length : Nat) : Int) < (P.length : Int) := by omega
              go_wp2_with (go_at_call 23; (with_reducible refine (ND.out _ HB4.out).mono ?_); rintro e w' ⟨rfl, hw⟩; subst hw)
              go_ret
              exact ⟨h, rfl, by rw [HFAR.out]; exact H4.out, HB4.out⟩
end Go.Proofs.Ytifbcboefopioaa.Tri

/-! By hand: shifts.Build of whatever texts, and what its methods tell. No condition but sizes. -/
set_option linter.unusedVariables false
set_option linter.unusedSimpArgs false
namespace Go.Proofs.Ytifbcboefopioaa.Tri
open Go.RowKit Go.Maps Go.Proofs.YtifbcboefopioaaW.PrintWords Go.Proofs.YtifbcboefopioaaW.PrintLast Go.Proofs.YtifbcboefopioaaW.PrintMore Go.Proofs.Ytifbcboefopioaa.Kit Go.Proofs.Ytifbcboefopioaa.All
attribute [local go_sem] max2_int min2_int max_two min_two max_three min_three max_four min_four

/-- The twos of all nodes; none without texts. -/
def farsX (T P : List Txt) : List Pr := if T = [] then [] else farsN T P
/-- The two of a number. -/
def twoOf (fs : List Pr) (n : Int) : Pr := if n < 0 then (0, 0) else fs.getD n.toNat (0, 0)
theorem twoOf_out {fs : List Pr} {n : Int} (h : n < 0 ∨ (fs.length : Int) ≤ n) : twoOf fs n = (0, 0) := by
  unfold twoOf
  split
  · rfl
  · rw [List.getD_eq_getElem?_getD, List.getElem?_eq_none (by omega)]
    rfl
theorem twoOf_at {fs : List Pr} {i : Nat} {p : Pr} (h : fs[i]? = some p) : twoOf fs (i : Int) = p := by
  unfold twoOf
  rw [if_neg (by omega), Int.toNat_natCast, List.getD_eq_getElem?_getD, h]
  rfl
theorem two_spec {T P : List Txt} (hP : P = pathsL T) {i : Nat} {s : Txt} (hi : P[i]? = some s) : Mn (leastN T) (O1 P s) (twoOf (farsX T P) i).1 ∧ Mn (leastN T) (way (O1 T) s) (twoOf (farsX T P) i).2 := by
  by_cases h : T = []
  · subst h
    subst hP
    have e : farsX [] (pathsL []) = [] := rfl
    rw [e, twoOf_out (by right; show ((0 : Nat) : Int) ≤ _; omega)]
    have hi2 : ([[]] : List Txt)[i]? = some s := hi
    have hs : s = [] := by
      have := List.mem_of_getElem? hi2
      simpa using this
    refine ⟨⟨Int.le_refl _, fun k hk => ?_, .inl rfl⟩, ⟨Int.le_refl _, fun k hk => ?_, .inl rfl⟩⟩
    · show (0 : Int) ≤ k
      omega
    · show (0 : Int) ≤ k
      omega
  · have e : farsX T P = farsN T P := if_neg h
    have hG : Good P := by rw [hP]; exact pathsL_good T
    obtain ⟨h1, h2⟩ := fars_sh (T := T) hG (by rw [hP]; exact pathsL_mem T)
    rw [e]
    have hil := (List.getElem?_eq_some_iff.1 hi).1
    obtain ⟨p, hp⟩ : ∃ p, (farsN T P)[i]? = some p := ⟨_, List.getElem?_eq_getElem (by omega)⟩
    obtain ⟨m1, m2⟩ := h2 i s hi
    have ep : (farsN T P).getD i (0, 0) = p := by rw [List.getD_eq_getElem?_getD, hp]; rfl
    rw [ep] at m1 m2
    rw [twoOf_at hp]
    exact ⟨m1, m2⟩
theorem O1_pos {P : List Txt} {s : Txt} : ∀ k, O1 P s k → 1 ≤ k := fun k ⟨_, _, h, _⟩ => h
theorem way_pos {P : List Txt} {s : Txt} : ∀ k, way (O1 P) s k → 1 ≤ k := fun k ⟨_, _, h⟩ => O1_pos k h
theorem two_bounds {T P : List Txt} (hP : P = pathsL T) (hne : ∀ t ∈ T, t ≠ []) (h0 : T ≠ []) {i : Nat} {s : Txt} (hi : P[i]? = some s) : 1 ≤ (twoOf (farsX T P) i).1 ∧ (twoOf (farsX T P) i).1 ≤ leastN T ∧ 1 ≤ (twoOf (farsX T P) i).2 ∧ (twoOf (farsX T P) i).2 ≤ leastN T := by
  obtain ⟨m1, m2⟩ := two_spec hP hi
  obtain ⟨l1, _⟩ := leastN_pos hne h0
  exact ⟨m1.pos (by omega) O1_pos, m1.1, m2.pos (by omega) way_pos, m2.1⟩
theorem least_le {T : List Txt} (hne : ∀ t ∈ T, t ≠ []) (h2 : ∀ t ∈ T, t.length ≤ 1000) : 0 ≤ leastN T ∧ leastN T ≤ 1000 := by
  refine ⟨leastN_nonneg T, ?_⟩
  by_cases h0 : T = []
  · subst h0
    decide
  · obtain ⟨_, ⟨t, ht, e⟩, _⟩ := leastN_pos hne h0
    have := h2 t ht
    omega
theorem near_le {T : List Txt} (hB : ∀ t ∈ T, Bytes t) (h2 : ∀ t ∈ T, t.length ≤ 1000) (c : Int) (c0 : 0 ≤ c) : 0 ≤ rd (nearN T) c ∧ rd (nearN T) c ≤ 1000 := by
  rcases near_spec T hB c c0 with ⟨h, _⟩ | ⟨h, ⟨m, ⟨t, ht, hm, _⟩, e⟩, _⟩
  · omega
  · have := h2 t ht
    omega
/-- How far, where a byte didn't fit. -/
def farW (T P : List Txt) (i : Nat) (s : Txt) (c : Int) : Int := if T = [] then 0 else farV (leastN T) (rd (nearN T) c) s.length (twoOf (farsX T P) i)
section
variable {w : World} {base h : Nat} {gp : Value} {fs : List Pr}
theorem of_any (H : FarAt w base h gp fs) (n : Int) : Calls Try.prog 62 #[.pointer (some ⟨h, 0, none⟩), .int .i64 n] w fun e w' => e = .returned (.agg #[.int .i64 (twoOf fs n).1, .int .i64 (twoOf fs n).2]) ∧ Below w.heap.size w w' := by
  by_cases hn : n < 0 ∨ (fs.length : Int) ≤ n
  · rw [twoOf_out hn]
    exact of_no H n hn
  · obtain ⟨i, rfl⟩ : ∃ i : Nat, n = (i : Int) := ⟨n.toNat, by omega⟩
    obtain ⟨p, hp⟩ : ∃ p, fs[i]? = some p := ⟨_, List.getElem?_eq_getElem (by omega)⟩
    rw [twoOf_at hp]
    exact of_at H i p hp
theorem first_any (H : FarAt w base h gp fs) (n : Int) : Calls Try.prog 49 #[.pointer (some ⟨h, 0, none⟩), .int .i64 n] w fun e w' => e = .returned (.int .i64 (twoOf fs n).1) ∧ Below w.heap.size w w' := first_of _ n _ (of_any H n)
theorem second_any (H : FarAt w base h gp fs) (n : Int) : Calls Try.prog 51 #[.pointer (some ⟨h, 0, none⟩), .int .i64 n] w fun e w' => e = .returned (.int .i64 (twoOf fs n).2) ∧ Below w.heap.size w w' := second_of _ n _ (of_any H n)
theorem far_out (H : FarAt w base h gp fs) (n c : Int) (hn : n < 0 ∨ (fs.length : Int) ≤ n) : Calls Try.prog 53 #[.pointer (some ⟨h, 0, none⟩), .int .i64 n, .int .u8 c] w fun e w' => e = .returned (.int .i64 0) ∧ Below w.heap.size w w' := far_zero _ n c (of_no H n hn)
theorem first_nil (n : Int) (w : World) : Calls Try.prog 49 #[.pointer none, .int .i64 n] w fun e w' => e = .returned (.int .i64 0) ∧ Below w.heap.size w w' := first_of _ n (0, 0) (of_nil n w)
theorem second_nil (n : Int) (w : World) : Calls Try.prog 51 #[.pointer none, .int .i64 n] w fun e w' => e = .returned (.int .i64 0) ∧ Below w.heap.size w w' := second_of _ n (0, 0) (of_nil n w)
theorem far_nil (n c : Int) (w : World) : Calls Try.prog 53 #[.pointer none, .int .i64 n, .int .u8 c] w fun e w' => e = .returned (.int .i64 0) ∧ Below w.heap.size w w' := far_zero _ n c (of_nil n w)
theorem far_any {g base0 b : Nat} {T P : List Txt} (hP : P = pathsL T) (hne : ∀ t ∈ T, t ≠ []) (hTB : ∀ t ∈ T, Bytes t) (hTS : ∀ t ∈ T, t.length ≤ 1000) (H : FarAt w base h (.pointer (some ⟨g, 0, none⟩)) (farsX T P)) (hK : BackIs w g (.pointer (some ⟨b, 0, none⟩)) (leastN T) (nearN T)) (hT : TreeAt w base0 b P (place T)) (i : Nat) (s : Txt) (hi : P[i]? = some s) (s1 : s.length ≤ 1000) (c : Int) (c0 : 0 ≤ c) (c1 : c ≤ 255) :
    Calls Try.prog 53 #[.pointer (some ⟨h, 0, none⟩), .int .i64 i, .int .u8 c] w fun e w' => e = .returned (.int .i64 (farW T P i s c)) ∧ Below w.heap.size w w' := by
  unfold farW
  by_cases h0 : T = []
  · rw [if_pos h0]
    have e : farsX T P = [] := if_pos h0
    rw [e] at H
    exact far_out H i c (.inr (by show ((0 : Nat) : Int) ≤ _; omega))
  · rw [if_neg h0]
    obtain ⟨b1, b2, b3, b4⟩ := two_bounds hP hne h0 hi
    have hl := least_le hne hTS
    have hn := near_le hTB hTS c c0
    have e : farsX T P = farsN T P := if_neg h0
    have hil := (List.getElem?_eq_some_iff.1 hi).1
    obtain ⟨p, hp⟩ : ∃ p, (farsX T P)[i]? = some p := ⟨_, List.getElem?_eq_getElem (by rw [e, farsN_len]; exact hil)⟩
    rw [twoOf_at hp] at b1 b2 b3 b4 ⊢
    have := far_at H hK hT i s hi p hp c.toNat (by omega) b1 (by omega) b3 (by omega) hl.1 hl.2 (by rw [Int.toNat_of_nonneg c0]; exact hn.1) (by rw [Int.toNat_of_nonneg c0]; exact hn.2) s1
    rwa [Int.toNat_of_nonneg c0] at this
end
set_option maxRecDepth 100000 in
theorem shbuild_nil (W0 : World) : Calls Try.prog 47 #[.pointer none] W0 fun e w' => ∃ h, e = .returned (.pointer (some ⟨h, 0, none⟩)) ∧ FarAt w' W0.heap.size h (.pointer none) [] ∧ Below W0.heap.size W0 w' := by
  have F0 : FarAt (W0.alloc (.cells #[.pointer none, .slice none 0 0] 79)) W0.heap.size W0.heap.size (.pointer none) [] := ⟨.slice none 0 0, Nat.le_refl _, blk_new W0 _, ⟨rfl, .inl ⟨rfl, rfl⟩⟩⟩
  have FF0 := Aside0.mk F0
  clear F0
  go_enter Try.func47, Try.ntmps47
  go_wp2_with (go_at_call 37; (with_reducible refine (least_nil _).mono ?_); rintro e w' ⟨rfl, hw⟩; have hw2 := hw.symm; clear hw; subst hw2)
  go_ret
  exact ⟨_, rfl, FF0.out, below_alloc (Below.refl _ _) _⟩
set_option maxRecDepth 100000 in
theorem shbuild_zero (W0 : World) (g : Nat) (tp : Value) (N : List Int) (hK : BackIs W0 g tp 0 N) : Calls Try.prog 47 #[.pointer (some ⟨g, 0, none⟩)] W0 fun e w' => ∃ h, e = .returned (.pointer (some ⟨h, 0, none⟩)) ∧ FarAt w' W0.heap.size h (.pointer (some ⟨g, 0, none⟩)) [] ∧ Below W0.heap.size W0 w' := by
  have F0 : FarAt (W0.alloc (.cells #[.pointer (some ⟨g, 0, none⟩), .slice none 0 0] 79)) W0.heap.size W0.heap.size (.pointer (some ⟨g, 0, none⟩)) [] := ⟨.slice none 0 0, Nat.le_refl _, blk_new W0 _, ⟨rfl, .inl ⟨rfl, rfl⟩⟩⟩
  have FF0 := Aside0.mk F0
  have LS := Aside0.mk (least_at (hK.below (below_alloc (Below.refl _ _) (.cells #[.pointer (some ⟨g, 0, none⟩), .slice none 0 0] 79))))
  clear F0 hK
  go_enter Try.func47, Try.ntmps47
  go_wp2_with (go_at_call 37; (with_reducible refine LS.out.mono ?_); rintro e w' ⟨rfl, hw⟩; have hw2 := hw.symm; clear hw; subst hw2)
  go_ret
  exact ⟨_, rfl, FF0.out, below_alloc (Below.refl _ _) _⟩
theorem shbuild_any (W0 : World) (g base0 b : Nat) (T P : List Txt) (hP : P = pathsL T) (hK : BackIs W0 g (.pointer (some ⟨b, 0, none⟩)) (leastN T) (nearN T)) (hT : TreeAt W0 base0 b P (place T)) (hpl : P.length ≤ 1000) (hne : ∀ t ∈ T, t ≠ []) (hTB : ∀ x ∈ T, Bytes x) (hPS : ∀ x ∈ P, x.length ≤ 1000) :
    Calls Try.prog 47 #[.pointer (some ⟨g, 0, none⟩)] W0 fun e w' => ∃ h base, e = .returned (.pointer (some ⟨h, 0, none⟩)) ∧ FarAt w' base h (.pointer (some ⟨g, 0, none⟩)) (farsX T P) ∧ Below W0.heap.size W0 w' := by
  by_cases h0 : T = []
  · have e : farsX T P = [] := if_pos h0
    have e2 : leastN T = 0 := by rw [h0]; rfl
    rw [e]
    rw [e2] at hK
    exact (shbuild_zero W0 g _ _ hK).mono fun e w' ⟨h, he, hf, hb⟩ => ⟨h, _, he, hf, hb⟩
  · have e : farsX T P = farsN T P := if_neg h0
    rw [e]
    obtain ⟨l1, _⟩ := leastN_pos hne h0
    exact (shbuild_at W0 g base0 b T P hP hK hT hpl (by rw [hP]; exact pathsL_bytes hTB) hPS (by omega)).mono fun e w' ⟨h, he, hf, hb⟩ => ⟨h, _, he, hf, hb⟩
theorem texts15_at (w : World) (A : Option Addr) (c : Nat) (L : List Txt) (k : Nat) (r : List ByteArray) (b : Bool) (hr : Kd.C (Kd.slice 5 (Kd.int .u8)) w A L.length L) (hc : L.length ≤ c) (h : seinelaw15_texts.f k L = some (r, b)) :
    Calls Try.prog 46 #[.slice A L.length c] w fun e w' => ∃ A1 c1, e = .returned (.tuple #[.slice A1 r.length c1, .bool b]) ∧ r.length ≤ c1 ∧ Kd.C Kd.string w' A1 r.length r ∧ Below w.heap.size w w' :=
  (seinelaw15_texts.calls k A c L r b w hr hc h).mono fun e w' ⟨v, he, ho, hb⟩ => by
    obtain ⟨A1, c1, rfl, hl, hC⟩ := Kd.R_reads ho
    exact ⟨A1, c1, he, hl, hC, hb⟩
theorem texts15_ok (w : World) (A : Option Addr) (c : Nat) (L : List Txt) (k : Nat) (hr : Kd.C (Kd.slice 5 (Kd.int .u8)) w A L.length L) (hc : L.length ≤ c) (h : seinelaw15_texts.f k L = some (L.map strOfNums, true)) :
    Calls Try.prog 46 #[.slice A L.length c] w fun e w' => ∃ A1 c1, e = .returned (.tuple #[.slice A1 L.length c1, .bool true]) ∧ L.length ≤ c1 ∧ Kd.C Kd.string w' A1 L.length (L.map strOfNums) ∧ Below w.heap.size w w' := by
  have := texts15_at w A c L k _ true hr hc h
  rwa [List.length_map] at this
end Go.Proofs.Ytifbcboefopioaa.Tri
