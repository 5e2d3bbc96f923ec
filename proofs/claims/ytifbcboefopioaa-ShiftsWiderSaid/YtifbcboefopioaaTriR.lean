/- The tree in Go's memory: the struct, the row of nodes, the map of edges. No condition. -/
import Derived.Test.YtifbcboefopioaaTri
import Derived.Test.YtifbcboefopioaaProg
import Derived.Lib.SmallJoins
import Derived.Maps.OwnOps
import Derived.Maps.OwnSet
import Derived.DeepKeys4
import Derived.MapViews
import Derived.Laws.AppendOwn
import Derived.WalkKit
import Derived.OpenShut
import Derived.RowKit
set_option linter.unusedVariables false
namespace Go.Proofs.Ytifbcboefopioaa.Tri
open Go.RowKit Go.Maps Go.Joins Go.ChangeShapes

theorem laid : laidOutB Try.prog = true := by kernel_rfl
theorem row75 : (75 : TypeId) < Try.prog.types.size := of_decide_eq_true (by kernel_rfl)
theorem wide75 : (match Try.prog.underlying 75 with | some (.array _ _) | some (.struct _) => true | _ => false) = true := by rw [Try.underlying75]
theorem klaw : Keyed Try.prog 75 := Keyed.of_law (deep_law_laid laid (m := 2) (by omega) row75 (by kernel_rfl) wide75)
theorem formed75 {a b : Value} : (Value.agg #[a, b]).formed Try.prog 75 = true := by
  have hC : Try.prog.cellsOf 75 = 2 := by kernel_rfl
  simp [Value.formed, Try.underlying75, hC]
def edge (n c : Int) : Value := .agg #[.int .i64 n, .int .u8 c]
theorem key_some {n c : Int} (hn : (Lit.int .i64 n).wf = true) (hc : (Lit.int .u8 c).wf = true) : ∃ l, keyOf Try.prog 75 (edge n c) = some l := by
  have h0 := shut_int (enc := fun _ => ()) (P := Try.prog) (w := default) (base := 0) (spare := fun _ => true) (held := true) Try.underlying3 hn
  have h1 := shut_int (enc := fun _ => ()) (P := Try.prog) (w := default) (base := 0) (spare := fun _ => true) (held := true) Try.underlying5 hc
  exact ⟨_, (keyOf_asKey (k := 75) (by kernel_rfl) wide75 formed75 (shut_agg2 Try.underlying75 (by kernel_rfl) (by kernel_rfl) h0 h1)).1⟩
/-- The key that an edge reads as. -/
noncomputable def kl (n c : Int) : Lit := (keyOf Try.prog 75 (edge n c)).getD (.bool false)
theorem wf64 {n : Int} (h0 : -9223372036854775808 ≤ n) (h1 : n ≤ 9223372036854775807) : (Lit.int .i64 n).wf = true := by
  simp [Lit.wf, IntKind.min, IntKind.max, IntKind.signed, IntKind.bits]
  omega
theorem wf8 {n : Int} (h0 : 0 ≤ n) (h1 : n ≤ 255) : (Lit.int .u8 n).wf = true := by
  simp [Lit.wf, IntKind.min, IntKind.max, IntKind.signed, IntKind.bits]
  omega
theorem kl_of {n : Nat} {c : Int} (hn : n ≤ 4611686018427387904) (h0 : 0 ≤ c) (h1 : c ≤ 255) : keyOf Try.prog 75 (edge n c) = some (kl n c) := by
  obtain ⟨l, hl⟩ := key_some (wf64 (n := (n : Int)) (by omega) (by omega)) (wf8 h0 h1)
  unfold kl
  rw [hl]
  rfl
theorem kl_inj {n m : Nat} {c d : Int} (hn : n ≤ 4611686018427387904) (h0 : 0 ≤ c) (h1 : c ≤ 255) (hm : m ≤ 4611686018427387904) (h2 : 0 ≤ d) (h3 : d ≤ 255) (h : kl n c = kl m d) : n = m ∧ c = d := by
  have e := klaw.inj (kl_of hn h0 h1) (by rw [h]; exact kl_of hm h2 h3)
  unfold edge at e
  simp at e
  omega
theorem kl_key {n : Nat} {c : Int} (hn : n ≤ 4611686018427387904) (h0 : 0 ≤ c) (h1 : c ≤ 255) : WideAt.IsKeyLit (kl n c) := klaw.key (kl_of hn h0 h1)

/-- What the map of edges tells of the beginnings. -/
def MapIs (D : DataW Unit) (P : List Txt) : Prop :=
  IsMap D ∧ ∀ (i : Nat) (c : Int), i ≤ 4611686018427387904 → 0 ≤ c → c ≤ 255 →
    (Maps.has D (kl i c) = true ↔ ∃ s, P[i]? = some s ∧ s ++ [c] ∈ P) ∧ ∀ s, P[i]? = some s → s ++ [c] ∈ P → ∀ z, D.atKey (kl i c) z = .lit (.int .i64 (place P (s ++ [c])))
theorem mapIs_root : MapIs (.map []) [[]] := by
  refine ⟨isMap_empty, fun i c _ _ _ => ⟨⟨fun h => by simp [has_eq] at h, fun ⟨s, hs, hm⟩ => ?_⟩, fun s hs hm => ?_⟩⟩
  all_goals
    exfalso
    simp at hm
theorem mapIs_add {D : DataW Unit} {P : List Txt} (hG : Good P) (h : MapIs D P) {i : Nat} {s : Txt} {c : Int} (hs : P[i]? = some s) (h0 : 0 ≤ c) (h1 : c ≤ 255) (hnew : s ++ [c] ∉ P) (hl : P.length ≤ 4611686018427387904) :
    MapIs (D.put (kl i c) (.lit (.int .i64 (P.length : Int)))) (P ++ [s ++ [c]]) := by
  obtain ⟨hm, hD⟩ := h
  have hil := (List.getElem?_eq_some_iff.1 hs).1
  refine ⟨hm.put _ _, fun j d hj d0 d1 => ?_⟩
  by_cases he : j = i ∧ d = c
  · obtain ⟨rfl, rfl⟩ := he
    have e1 : (P ++ [s ++ [d]])[j]? = some s := by rw [List.getElem?_append_left hil]; exact hs
    refine ⟨⟨fun _ => ⟨s, e1, by simp⟩, fun _ => has_put_same hm (kl_key hj d0 d1) _⟩, fun s' hs' _ z => ?_⟩
    rw [e1] at hs'
    cases hs'
    rw [atKey_put_same hm (kl_key hj d0 d1), place_new hnew]
  · have hne : kl j d ≠ kl i c := fun e => he (kl_inj hj d0 d1 (by omega) h0 h1 e)
    rw [has_put_other hne]
    obtain ⟨hh, ha⟩ := hD j d hj d0 d1
    have key : ∀ s', (P ++ [s ++ [c]])[j]? = some s' → s' ++ [d] ∈ P ++ [s ++ [c]] → P[j]? = some s' ∧ s' ++ [d] ∈ P := by
      intro s' hs' hm'
      by_cases hjl : j < P.length
      · rw [List.getElem?_append_left hjl] at hs'
        refine ⟨hs', ?_⟩
        rcases List.mem_append.1 hm' with h | h
        · exact h
        · exfalso
          simp at h
          obtain ⟨e1, e2⟩ := h
          subst e1 e2
          have := (List.getElem_inj (h₀ := hjl) (h₁ := hil) hG.nodup).1 (by rw [(List.getElem?_eq_some_iff.1 hs').2, (List.getElem?_eq_some_iff.1 hs).2])
          exact he ⟨this, rfl⟩
      · exfalso
        have hjl2 : j = P.length := by
          have := (List.getElem?_eq_some_iff.1 hs').1
          simp at this
          omega
        subst hjl2
        simp at hs'
        subst hs'
        rcases List.mem_append.1 hm' with h | h
        · have := hG.drop h
          rw [List.dropLast_concat] at this
          exact hnew this
        · simp at h
    refine ⟨hh.trans ⟨fun ⟨s', hs', hm'⟩ => ⟨s', by rw [List.getElem?_append_left (List.getElem?_eq_some_iff.1 hs').1]; exact hs', List.mem_append_left _ hm'⟩, fun ⟨s', hs', hm'⟩ => ⟨s', key s' hs' hm'⟩⟩, fun s' hs' hm' z => ?_⟩
    obtain ⟨k1, k2⟩ := key s' hs' hm'
    rw [atKey_put_other hne, ha s' k1 k2, place_append k2]

/-- The tree's struct in block b, its nodes and its edges in blocks from 'base' on. -/
def TreeAt (w : World) (base b : Nat) (P : List Txt) (wd : Txt → Int) : Prop :=
  ∃ (g cap mb n : Nat) (D : DataW Unit), base ≤ b ∧ base ≤ mb ∧ w.heap[b]? = some (.cells #[.slice (some ⟨g, 0, none⟩) P.length cap, .map (some mb)] 71) ∧
    w.ownsRow base 67 4 (.slice (some ⟨g, 0, none⟩) P.length cap) P.length (nodeCells P wd) ∧ w.ownsMap Try.prog 75 (plainElem Try.prog 3) mb n D ∧ n ≤ P.length ∧ MapIs D P
theorem ownsMap_below {W W' : World} {k : TypeId} {R : Value → Option (DataW Unit × List MemPlace)} {b n : Nat} {D : DataW Unit} (h : W.ownsMap Try.prog k R b n D) (hb : Below W.heap.size W W') : W'.ownsMap Try.prog k R b n D := by
  obtain ⟨es, clock, h1, h2⟩ := h
  exact ⟨es, clock, (hb.block b (Array.getElem?_eq_some_iff.1 h1).1).trans h1, h2⟩
theorem ownsRow_below {W W' : World} {B e size n : Nat} {v : Value} {xs : List Value} (h : W.ownsRow B e size v n xs) (hb : Below W.heap.size W W') : W'.ownsRow B e size v n xs := by
  refine h.kept (row := none) ⟨hb.os, hb.tape, hb.output, hb.size, fun i hi _ => hb.block i hi⟩ ?_
  cases h2 : v.ownBlock <;> simp
theorem TreeAt.below {w w' : World} {base b : Nat} {P : List Txt} {wd : Txt → Int} (h : TreeAt w base b P wd) (hb : Below w.heap.size w w') : TreeAt w' base b P wd := by
  obtain ⟨g, cap, mb, n, D, h1, h2, h3, h4, h5, h6⟩ := h
  exact ⟨g, cap, mb, n, D, h1, h2, (hb.block b (Array.getElem?_eq_some_iff.1 h3).1).trans h3, ownsRow_below h4 hb, ownsMap_below h5 hb, h6⟩
theorem add_at (g j : Nat) : (⟨g, 0, none⟩ : Addr).add j = ⟨g, j, none⟩ := by
  unfold Addr.add
  split
  · rename_i h; subst h; rfl
  · simp
theorem row_cells {w : World} {base g cap : Nat} {P : List Txt} {wd : Txt → Int} (h : w.ownsRow base 67 4 (.slice (some ⟨g, 0, none⟩) P.length cap) P.length (nodeCells P wd)) {i : Nat} {s : Txt} (hi : P[i]? = some s) :
    w.cell? ⟨g, i * 4, none⟩ = some (.int .i64 (par P s)) ∧ w.cell? ⟨g, i * 4 + 1, none⟩ = some (.int .i64 s.length) ∧ w.cell? ⟨g, i * 4 + 2, none⟩ = some (.int .i64 (wd s)) ∧ w.cell? ⟨g, i * 4 + 3, none⟩ = some (.int .u8 (s.getLastD 0)) := by
  have hc := h.cells (g := g) rfl
  have key : ∀ j u, j < 4 → (nodeOf P wd s)[j]? = some u → w.cell? ⟨g, i * 4 + j, none⟩ = some u := by
    intro j u hj hu
    have := hc (i * 4 + j) u ((nodeCells_at hi j hj).trans hu)
    rwa [add_at] at this
  exact ⟨key 0 _ (by omega) rfl, key 1 _ (by omega) rfl, key 2 _ (by omega) rfl, key 3 _ (by omega) rfl⟩
theorem block_cells {w : World} {b : Nat} {x y : Value} {t : TypeId} (h : w.heap[b]? = some (.cells #[x, y] t)) : w.cell? ⟨b, 0, none⟩ = some x ∧ w.cell? ⟨b, 1, none⟩ = some y ∧ ∀ i, w.frozen? ⟨b, i, none⟩ = false := by
  refine ⟨?_, ?_, fun i => ?_⟩
  all_goals simp [World.cell?, World.frozen?, h]
/-- All that a method reads. -/
theorem TreeAt.reads {w : World} {base b : Nat} {P : List Txt} {wd : Txt → Int} (h : TreeAt w base b P wd) {i : Nat} {s : Txt} (hi : P[i]? = some s) :
    ∃ g cap mb, w.cell? ⟨b, 0, none⟩ = some (.slice (some ⟨g, 0, none⟩) P.length cap) ∧ w.cell? ⟨b, 1, none⟩ = some (.map (some mb)) ∧
      w.cell? ⟨g, i * 4, none⟩ = some (.int .i64 (par P s)) ∧ w.cell? ⟨g, i * 4 + 1, none⟩ = some (.int .i64 s.length) ∧ w.cell? ⟨g, i * 4 + 2, none⟩ = some (.int .i64 (wd s)) ∧ w.cell? ⟨g, i * 4 + 3, none⟩ = some (.int .u8 (s.getLastD 0)) := by
  obtain ⟨g, cap, mb, n, D, h1, h2, h3, h4, h5, h6⟩ := h
  obtain ⟨x0, x1, _⟩ := block_cells h3
  obtain ⟨f0, f1, f2, f3⟩ := row_cells h4 hi
  exact ⟨g, cap, mb, x0, x1, f0, f1, f2, f3⟩
end Go.Proofs.Ytifbcboefopioaa.Tri
