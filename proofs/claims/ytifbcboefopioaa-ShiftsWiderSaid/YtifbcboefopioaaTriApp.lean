/- Rows of byte rows as rows of raw values, and back; the beginnings of texts and of more texts. No condition. -/
import Derived.Test.YtifbcboefopioaaTriL2
import Derived.Deep.Matrix
set_option linter.unusedVariables false
namespace Go.Proofs.Ytifbcboefopioaa.Tri
open Go.RowKit Go.Maps Go.Proofs.YtifbcboefopioaaW.PrintWords Go.Proofs.YtifbcboefopioaaW.PrintLast Go.Proofs.YtifbcboefopioaaW.PrintMore Go.Proofs.Ytifbcboefopioaa.Kit Go.Proofs.Ytifbcboefopioaa.All

theorem info32 : (Try.prog.info? 32).map (fun i => (i.zero, i.size, i.bytes)) = some (some (.slice none 0 0), 1, 24) := by kernel_rfl
/-- A row of raw values, each of which is a row: as a row of rows. -/
theorem raw_C {W : World} {A : Option Addr} {n : Nat} {vs : List Value} {xs : List Txt} (h : Kd.C (Kd.raw 1) W A n (vs.map fun x => [x])) (hl : xs.length = vs.length)
    (hx : ∀ (j : Nat) (x : Txt), xs[j]? = some x → ∃ A' c', vs[j]? = some (.slice A' x.length c') ∧ x.length ≤ c' ∧ Kd.C (Kd.int .u8) W A' x.length x) : Kd.C (Kd.slice 5 (Kd.int .u8)) W A n xs := by
  obtain ⟨h1, h2, h3⟩ := h
  refine ⟨by rw [hl]; simpa using h1, h2, fun hp => ?_⟩
  obtain ⟨ad, rfl, hc⟩ := h3 hp
  refine ⟨ad, rfl, fun j x hj => ?_⟩
  obtain ⟨A', c', hv, hle, hC⟩ := hx j x hj
  obtain ⟨c, hcl, hr, hcell⟩ := hc j [.slice A' x.length c'] (by rw [List.getElem?_map, hv]; rfl)
  obtain ⟨rfl, _, _⟩ := hr
  exact ⟨_, rfl, ⟨A', c', rfl, hle, hC⟩, hcell⟩
/-- What the values of a row of rows lead to. -/
def RowsOf (W : World) (vs : List Value) (L : List Txt) : Prop :=
  vs.length = L.length ∧ ∀ (j : Nat) (x : Txt), L[j]? = some x → ∃ A' c', vs[j]? = some (.slice A' x.length c') ∧ x.length ≤ c' ∧ Kd.C (Kd.int .u8) W A' x.length x
theorem RowsOf.below {W W1 : World} {vs : List Value} {L : List Txt} (h : RowsOf W vs L) (hb : Below W.heap.size W W1) : RowsOf W1 vs L :=
  ⟨h.1, fun j x hj => by obtain ⟨A', c', h1, h2, h3⟩ := h.2 j x hj; exact ⟨A', c', h1, h2, Kd.C_below h3 hb⟩⟩
theorem RowsOf.append {W : World} {vs us : List Value} {L M : List Txt} (h : RowsOf W vs L) (g : RowsOf W us M) : RowsOf W (vs ++ us) (L ++ M) := by
  refine ⟨by simp [h.1, g.1], fun j x hj => ?_⟩
  by_cases hlt : j < L.length
  · rw [List.getElem?_append_left hlt] at hj
    obtain ⟨A', c', h1, h2⟩ := h.2 j x hj
    exact ⟨A', c', by rw [List.getElem?_append_left (by rw [h.1]; exact hlt)]; exact h1, h2⟩
  · rw [List.getElem?_append_right (by omega)] at hj
    obtain ⟨A', c', h1, h2⟩ := g.2 _ x hj
    exact ⟨A', c', by rw [List.getElem?_append_right (by rw [h.1]; omega), h.1]; exact h1, h2⟩
theorem RowsOf.one {W : World} {A : Option Addr} {c : Nat} {s : Txt} (hc : s.length ≤ c) (h : Kd.C (Kd.int .u8) W A s.length s) : RowsOf W [.slice A s.length c] [s] := by
  refine ⟨rfl, fun j x hj => ?_⟩
  match j, hj with
  | 0, hj =>
    cases hj
    exact ⟨A, c, rfl, hc, h⟩
  | j + 1, hj => simp at hj
theorem rows_raw {W : World} {A : Option Addr} {L : List Txt} (h : Kd.C (Kd.slice 5 (Kd.int .u8)) W A L.length L) : ∃ vs : List Value, Kd.C (Kd.raw 1) W A L.length (vs.map fun x => [x]) ∧ RowsOf W vs L := by
  have each : ∀ j, j < L.length → ∃ v : Value, ∃ A' c', v = .slice A' (L.getD j []).length c' ∧ (L.getD j []).length ≤ c' ∧ Kd.C (Kd.int .u8) W A' (L.getD j []).length (L.getD j []) ∧ ∃ ad, A = some ad ∧ W.cell? (ad.add j) = some v := by
    intro j hj
    obtain ⟨ad, A', c', e, hx, hc', hC⟩ := at_L1 h (j : Int) (by omega) (by omega)
    simp only [rd_L1, Int.toNat_natCast] at hx hc' hC
    exact ⟨_, A', c', rfl, hc', hC, ad, e, hx⟩
  obtain ⟨y, hy⟩ := Deep.choose_lt each
  have hlen : ((List.range L.length).map y).length = L.length := by simp
  have hget : ∀ j, j < L.length → ((List.range L.length).map y)[j]? = some (y j) := fun j hj => by rw [List.getElem?_map, List.getElem?_range hj]; rfl
  refine ⟨(List.range L.length).map y, ⟨by simp, h.2.1, fun hp => ?_⟩, hlen, fun j x hj => ?_⟩
  · obtain ⟨A', c', e, hc', hC, ad, hA, hx⟩ := hy 0 hp
    refine ⟨ad, hA, fun j p hj => ?_⟩
    have hjl : j < L.length := by
      have := (List.getElem?_eq_some_iff.1 hj).1
      simpa using this
    rw [List.getElem?_map, hget j hjl] at hj
    simp only [Option.map_some, Option.some.injEq] at hj
    subst hj
    obtain ⟨A2, c2, e2, _, _, ad2, hA2, hx2⟩ := hy j hjl
    rw [hA] at hA2
    cases hA2
    refine ⟨[y j], rfl, ⟨rfl, rfl, fun u hu => ?_⟩, fun i u hu => ?_⟩
    · simp at hu
      subst hu
      rw [e2]
      rfl
    · obtain rfl : i = 0 := by
        have := (List.getElem?_eq_some_iff.1 hu).1
        simpa using this
      simp at hu
      subst hu
      simpa [Kd.raw] using hx2
  · have hjl := (List.getElem?_eq_some_iff.1 hj).1
    have e : L.getD j [] = x := by rw [List.getD_eq_getElem?_getD, hj]; rfl
    obtain ⟨A', c', e2, hc', hC, _⟩ := hy j hjl
    rw [e] at e2 hc' hC
    exact ⟨A', c', by rw [hget j hjl, e2], hc', hC⟩

/-! ### more texts -/
theorem pathsL_append (L M : List Txt) : ∃ m, pathsL (L ++ M) = pathsL L ++ m := by
  obtain ⟨m, hm⟩ := pathsFrom_pre M (pathsL L)
  refine ⟨m, ?_⟩
  rw [← hm]
  simp [pathsL, pathsFrom]
theorem place_more {L M : List Txt} {s : Txt} : (0 ≤ place L s → place (L ++ M) s = place L s) ∧ (place L s < 0 → 0 ≤ place (L ++ M) s → (L.length : Int) ≤ place (L ++ M) s) := by
  refine ⟨fun h => place_append (place_pos.1 h), fun h h2 => ?_⟩
  have hn := place_neg.1 h
  have hm := place_pos.1 h2
  rw [place_mem hm, List.idxOf_append, if_neg hn]
  omega
end Go.Proofs.Ytifbcboefopioaa.Tri
