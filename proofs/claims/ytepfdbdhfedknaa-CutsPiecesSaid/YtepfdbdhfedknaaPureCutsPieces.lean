/- 'CutsPieces': whatever the text and the cuts: the places and the pieces are the reference's. No condition. -/
import Derived.Test.YtepfdbdhfedknaaRunsA
import Derived.Test.YtepfdbdhfedknaaAllx3
namespace Go.Proofs.Ytepfdbdhfedknaa.Pure
open Go.RowKit Go.Proofs.YtepfdbdhfedknaaW.PrintWords Go.Proofs.Ytepfdbdhfedknaa.Kit Go.Proofs.Ytepfdbdhfedknaa.All Go.Proofs.Ytepfdbdhfedknaa.Runs
theorem pieces_f (l cs : List Int) (hl : l.length < 1099511627776) (hc : cs.length < 1099511627776) : cuts_Pieces.f l cs = some (piecesP l 0 (placesL l.length 0 cs ++ [(l.length : Int)])) := by
  unfold cuts_Pieces.f
  rw [if_pos hl, if_pos hc]
theorem CutsPieces : seinelaw19_CutsPieces.Pure := by
  intro l cs n hm hs hwf hm1 hs1 hwf1 hwn
  refine Ev.rounds (?_ : Ev (fun k => seinelaw19_CutsPieces.f k l cs n) true)
  unfold seinelaw19_CutsPieces.f
  refine Ev.bind awake19 ?_
  refine Ev.pos rfl ?_
  by_cases hl : (l.length : Int) > 600
  · refine Ev.pos hl ?_
    refine Ev.step (fun k => by rw [seinelaw19_CutsPieces.j0]) ?_
    exact Ev.pos rfl (Ev.now _)
  · refine Ev.neg hl ?_
    refine Ev.step (fun k => by rw [seinelaw19_CutsPieces.j0]) ?_
    by_cases hc : (cs.length : Int) > 100
    · exact Ev.pos (decide_eq_true hc) (Ev.now _)
    · refine Ev.neg (by simpa using hc) ?_
      refine Ev.bindc (pieces_f l cs (by omega) (by omega)) ?_
      refine Ev.bind (rpieces_ev l cs (by omega) (by omega)) ?_
      refine Ev.bind (same_ev _ (by rw [(pvs_length none l _ _).2, List.length_append, placesL_length]; simp; omega)) ?_
      refine Ev.pos rfl ?_
      refine Ev.bind (places_ev n cs (by omega)) ?_
      refine Ev.bind (rplaces_ev n cs (by omega)) ?_
      refine Ev.bind (same7_ev _ (by rw [placesL_length]; omega)) ?_
      exact Ev.now _
end Go.Proofs.Ytepfdbdhfedknaa.Pure
