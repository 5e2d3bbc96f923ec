/- By hand: the contract of the tree's grow: the node to which a byte leads, which is made, if it isn't there. No condition but that the tree lies there. -/
import Derived.Test.YtifbcboefopioaaTriK
import Derived.Deep.QuietTactic
import Derived.BigQuiet
import Derived.Deep.RegionLaw
import Derived.StillTailTactics
import Derived.IntWalk
set_option linter.unusedVariables false
namespace Go.Proofs.Ytifbcboefopioaa.Tri
open Go.RowKit Go.Maps Go.Proofs.YtifbcboefopioaaW.PrintWords Go.Proofs.YtifbcboefopioaaW.PrintLast Go.Proofs.YtifbcboefopioaaW.PrintMore Go.Proofs.Ytifbcboefopioaa.Kit
attribute [local go_sem] max2_int min2_int max_two min_two max_three min_three max_four min_four

theorem look_run {W : World} {mb n : Nat} {D : DataW Unit} (h : W.ownsMap Try.prog 75 (plainElem Try.prog 3) mb n D) (i : Nat) (c : Int) (hi : i ≤ 4611686018427387904) (c0 : 0 ≤ c) (c1 : c ≤ 255) :
    ∃ d : Int, (Instr.lookup 69 (.map (some mb)) (.agg #[.int .i64 i, .int .u8 c]) true).run Try.prog W = .ok (.tuple #[.int .i64 d, .bool (Maps.has D (kl i c))]) W ∧ D.atKey (kl i c) (.lit (.int .i64 0)) = .lit (.int .i64 d) := by
  obtain ⟨v, ps, hrun, hv⟩ := h.look_ok klaw Try.underlying69 (zero3 _) (plainElem_int Try.underlying3 (by decide)) (kl_of hi c0 c1)
  obtain ⟨d, rfl, hd, _⟩ := plainElem_int_inv Try.underlying3 hv
  exact ⟨d, hrun, congrArg Prod.fst hd⟩
set_option maxHeartbeats 4000000 in
theorem grow_old {w : World} {base b : Nat} {P : List Txt} {wd : Txt → Int} (h : TreeAt w base b P wd) (hl : P.length ≤ 4611686018427387904) (i : Nat) (s : Txt) (hi : P[i]? = some s) (c : Int) (c0 : 0 ≤ c) (c1 : c ≤ 255) (hm : s ++ [c] ∈ P) :
    Calls Try.prog 56 #[.pointer (some ⟨b, 0, none⟩), .int .i64 i, .int .u8 c] w fun e w' => e = .returned (.int .i64 (place P (s ++ [c]))) ∧ Below w.heap.size w w' := by
  have hil := (List.getElem?_eq_some_iff.1 hi).1
  obtain ⟨g, cap, mb, n, D, h1, h2, h3, h4, h5, h6, h7, h8⟩ := h
  obtain ⟨x0, x1, _⟩ := block_cells h3
  obtain ⟨hh, ha⟩ := h8 i c (by omega) c0 c1
  have e1 : Maps.has D (kl i c) = true := hh.2 ⟨s, hi, hm⟩
  have ha1 := ha s hi hm (.lit (.int .i64 0))
  have hbl := (Array.getElem?_eq_some_iff.1 h3).1
  have hlk : ∀ W, Below w.heap.size w W → (Instr.lookup 69 (.map (some mb)) (.agg #[.int .i64 i, .int .u8 c]) true).run Try.prog W = .ok (.tuple #[.int .i64 (place P (s ++ [c])), .bool true]) W := by
    intro W hW
    obtain ⟨d, hr, hd⟩ := look_run (ownsMap_below h5 hW) i c (by omega) c0 c1
    rw [ha1] at hd
    obtain rfl := lit_eq hd
    rw [hr, e1]
  have y0 : ∀ W, Below w.heap.size w W → W.cell? ⟨b, 1, none⟩ = some (.map (some mb)) := fun W hW => (hW.cell (p := ⟨b, 1, none⟩) hbl).trans x1
  have HL := Aside0.mk hlk
  have HY := Aside0.mk y0
  clear h1 h2 h3 h4 h5 h6 h7 h8 hh ha hlk y0 ha1
  go_enter Try.func56, Try.ntmps56
  go_wp2
  have l1 := HL.out (w.alloc (.cells #[.int .i64 i, .int .u8 c] 75)) (below_alloc (Below.refl _ _) _)
  have l2 := fun m => HL.out ((w.alloc (.cells #[.int .i64 i, .int .u8 c] 75)).drewN m) (pw_below_drewN (below_alloc (Below.refl _ _) _) m)
  go_quiet (fail)
  go_wp2
  go_ret
  exact ⟨rfl, pw_below_drewN (below_alloc (Below.refl _ _) _) _⟩
theorem step_own {ops : Array Oper} {o : Oper} {a : Act} {w : World} {K : Act → World → Prop} {Q : Exit → Act → World → Prop} {E : Prop} (hg : o.guard = none) (s x : Operand) (t : TypeId)
    (ho : o.op = .call { callee := .builtin .append, args := #[s, x], argTypes := #[t, t] })
    (base : Nat) (e : TypeId) (i : TypeInfo) (z : Value) (size bytes : Nat) (ht : Try.prog.underlying t = some (.slice e)) (hi : Try.prog.info? e = some i) (hz : i.zero = some z)
    (hsize : i.size = size) (hby : i.bytes = bytes) (hzs : z.cells.size = size) (hsz : 0 < size)
    (v : Value) (n : Nat) (xs : List Value) (hs : a.eval s = v) (hown : w.ownsRow base e size v n xs)
    (ad : Addr) (m c : Nat) (news : List Value) (hx : a.eval x = .slice (some ad) m c) (hl : news.length = m * size) (hnews : ∀ j u, news[j]? = some u → w.cell? (ad.add j) = some u) (h1 : ∀ u ∈ news, u.oneCell' = true)
    (h63 : n + m ≤ maxLen) (hbytes : (n + m) * bytes ≤ 140737488355328) (hbase : base ≤ w.heap.size)
    (h : ∀ v' w', w'.ownsRow base e size v' (n + m) (xs ++ news) → w.grownBy w' v.ownBlock → (v' = .slice none 0 0 ↔ v = .slice none 0 0 ∧ m = 0) → K (a.put o.dst v') w') :
    if Region.wanted o (yielded ops a.tmps) = true then Oper.wp Try.prog o a w K Q else E := by
  have hw : Region.wanted o (yielded ops a.tmps) = true := by simp [Region.wanted, hg]
  rw [if_pos hw]
  exact wp_append_own w s x t ho base e i z size bytes ht hi hz hsize hby hzs hsz v n xs hs hown ad m c news hx hl hnews h1 h63 hbytes hbase h
theorem info67 : (Try.prog.info? 67).map (fun i => (i.zero, i.size, i.bytes)) = some (some (.agg #[.int .i64 0, .int .i64 0, .int .i64 0, .int .u8 0]), 4, 32) := by kernel_rfl
theorem row_block {W : World} {base g n cap : Nat} {xs : List Value} (h : W.ownsRow base 67 4 (.slice (some ⟨g, 0, none⟩) n cap) n xs) : ∃ cur, W.heap[g]? = some (.cells cur 67) := by
  rcases h.2 with ⟨h0, _⟩ | ⟨g', cap', cur, hv, hb, hg, rest⟩
  · cases h0
  · cases hv
    exact ⟨cur, hg⟩
theorem row_ne {W : World} {base b g n cap : Nat} {xs : List Value} {cs : Array Value} (h : W.ownsRow base 67 4 (.slice (some ⟨g, 0, none⟩) n cap) n xs) (hb : W.heap[b]? = some (.cells cs 71)) : b ≠ g := by
  rintro rfl
  obtain ⟨cur, hc⟩ := row_block h
  rw [hb] at hc
  injection hc with hc
  injection hc with _ hc
  revert hc
  decide
theorem map_ne {W : World} {b mb n : Nat} {D : DataW Unit} {cs : Array Value} {t : TypeId} (hm : W.ownsMap Try.prog 75 (plainElem Try.prog 3) mb n D) (hb : W.heap[b]? = some (.cells cs t)) : b ≠ mb := by
  rintro rfl
  obtain ⟨es, clock, h, _⟩ := hm
  rw [hb] at h
  cases h
theorem blk_on {W W1 : World} {g : Nat} {o : Obj} (h : W.heap[g]? = some o) (hb : Below W.heap.size W W1) : W1.heap[g]? = some o := (hb.block g (Array.getElem?_eq_some_iff.1 h).1).trans h
theorem row_form {W : World} {base n : Nat} {v : Value} {xs : List Value} (h : W.ownsRow base 67 4 v n xs) (hn : 0 < n) : ∃ g cap, v = .slice (some ⟨g, 0, none⟩) n cap := by
  rcases h.2 with ⟨_, h0⟩ | ⟨g, cap, cur, hv, _⟩
  · have := h.1
    subst h0
    simp at this
    omega
  · exact ⟨g, cap, hv⟩
theorem new_cells (W : World) (x0 x1 x2 x3 : Value) (t : TypeId) : ∀ (j : Nat) (u : Value), [x0, x1, x2, x3][j]? = some u → (W.alloc (.cells #[x0, x1, x2, x3] t)).cell? ((⟨W.heap.size, 0, none⟩ : Addr).add j) = some u := by
  intro j u hj
  rw [add_plain, World.cell?_alloc_mark]
  simpa using hj
theorem grown_set (W : World) (b : Nat) (v : Value) : W.grownBy (W.setCell ⟨b, 0, none⟩ v) (some b) :=
  ⟨rfl, rfl, rfl, by simp [World.setCell], fun k _ hk => Below.heap_setCell W ⟨b, 0, none⟩ v k (fun e => hk (by rw [e]))⟩
/-- What a new node leaves. -/
theorem grow_done {w0 w1 w2 : World} {base b g g2 cap cap2 mb n : Nat} {D : DataW Unit} {P : List Txt} {wd : Txt → Int} {i : Nat} {s : Txt} {c : Int} {X : Obj} (hG : Good P) (hT : MapIs D P) (hI : P[i]? = some s) (c0 : 0 ≤ c) (c1 : c ≤ 255) (hM : s ++ [c] ∉ P) (hl : P.length ≤ 1099511627776) (hwd : wd (s ++ [c]) = -1)
    (h1 : base ≤ b) (h2 : base ≤ mb) (h6 : n ≤ P.length) (hbase : base ≤ w1.heap.size) (hBM : b ≠ mb) (hGM : g ≠ mb) (hgb : base ≤ g)
    (M5 : w1.ownsMap Try.prog 75 (plainElem Try.prog 3) mb (n + 1) (D.put (kl i c) (.lit (.int .i64 (P.length : Int))))) (MB : Below base w0 w1) (NG : (w1.alloc X).grownBy w2 (some g))
    (N4 : w2.ownsRow base 67 4 (.slice (some ⟨g2, 0, none⟩) (P.length + 1) cap2) (P.length + 1) (nodeCells P wd ++ [.int .i64 i, .int .i64 ((s.length : Int) + 1), .int .i64 (-1), .int .u8 c]))
    (N3 : w2.heap[b]? = some (.cells #[.slice (some ⟨g, 0, none⟩) P.length cap, .map (some mb)] 71)) :
    TreeAt (w2.setCell ⟨b, 0, none⟩ (.slice (some ⟨g2, 0, none⟩) (P.length + 1) cap2)) base b (P ++ [s ++ [c]]) wd ∧ Below base w0 (w2.setCell ⟨b, 0, none⟩ (.slice (some ⟨g2, 0, none⟩) (P.length + 1) cap2)) := by
  have hlen : (P ++ [s ++ [c]]).length = P.length + 1 := by simp
  have hnode : nodeCells (P ++ [s ++ [c]]) wd = nodeCells P wd ++ [.int .i64 i, .int .i64 ((s.length : Int) + 1), .int .i64 (-1), .int .u8 c] := by
    rw [nodeCells_add hG]
    congr 1
    unfold nodeOf par
    rw [if_neg (by simp), List.dropLast_concat, place_append (List.mem_of_getElem? hI), place_at hG.nodup hI, hwd]
    simp
  have hne := row_ne N4 N3
  constructor
  · refine ⟨g2, cap2, mb, n + 1, _, h1, h2, ?_, ?_, ?_, by rw [hlen]; omega, mapIs_add hG hT hI c0 c1 hM (by omega)⟩
    · rw [hlen]
      exact blk_put N3 0 _ rfl
    · rw [hlen, hnode]
      exact N4.kept (grown_set w2 b _) (.inr (fun e => hne (Option.some.inj e).symm))
    · exact ((M5.alloc X).kept NG (fun e => hGM (Option.some.inj e).symm)).kept (grown_set w2 b _) (fun e => hBM (Option.some.inj e).symm)
  · exact (((MB.alloc hbase X).grown NG (by simp; omega) (fun k hk => by cases hk; exact hgb))).setCell h1 _
set_option maxHeartbeats 8000000 in
theorem grow_new {w : World} {base b : Nat} {P : List Txt} {wd : Txt → Int} (hG : Good P) (h : TreeAt w base b P wd) (hl : P.length ≤ 1099511627776) (i : Nat) (s : Txt) (hi : P[i]? = some s) (hsl : s.length ≤ 1099511627776) (c : Int) (c0 : 0 ≤ c) (c1 : c ≤ 255) (hm : s ++ [c] ∉ P)
    (hwd : wd (s ++ [c]) = -1) (w0 : World) (hB : Below base w0 w) (hb0 : base ≤ w.heap.size) :
    Calls Try.prog 56 #[.pointer (some ⟨b, 0, none⟩), .int .i64 i, .int .u8 c] w fun e w' => e = .returned (.int .i64 P.length) ∧ TreeAt w' base b (P ++ [s ++ [c]]) wd ∧ Below base w0 w' := by
  have hil := (List.getElem?_eq_some_iff.1 hi).1
  obtain ⟨g, cap, mb, n, D, h1, h2, h3, h4, h5, h6, h7⟩ := h
  have HT := Aside0.mk h7
  obtain ⟨x0, x1, _⟩ := block_cells h3
  obtain ⟨hh, ha⟩ := h7.2 i c (by omega) c0 c1
  have e1 : Maps.has D (kl i c) = false := by
    cases hv : Maps.has D (kl i c) with
    | false => rfl
    | true =>
      obtain ⟨s', hs', hm'⟩ := hh.1 hv
      rw [hi] at hs'
      cases hs'
      exact absurd hm' hm
  have hbl := (Array.getElem?_eq_some_iff.1 h3).1
  have hlk : ∃ d : Int, ∀ W, Below w.heap.size w W → (Instr.lookup 69 (.map (some mb)) (.agg #[.int .i64 i, .int .u8 c]) true).run Try.prog W = .ok (.tuple #[.int .i64 d, .bool false]) W := by
    obtain ⟨d, hr, hd⟩ := look_run h5 i c (by omega) c0 c1
    refine ⟨d, fun W hW => ?_⟩
    obtain ⟨d2, hr2, hd2⟩ := look_run (ownsMap_below h5 hW) i c (by omega) c0 c1
    rw [hd] at hd2
    obtain rfl := lit_eq hd2
    rw [hr2, e1]
  obtain ⟨d, hlk⟩ := hlk
  have HL := Aside0.mk hlk
  have HG := Aside0.mk hG
  have HI := Aside0.mk hi
  have H3 := Aside0.mk h3
  have H4 := Aside0.mk h4
  have H5 := Aside0.mk h5
  have HM := Aside0.mk hm
  have HB := Aside0.mk hB
  have HW := Aside0.mk hwd
  have HKL := Aside0.mk (kl_of (n := i) (c := c) (by omega) c0 c1)
  clear h3 h4 h5 h7 hh ha hlk hG hi hm hB hwd
  go_enter Try.func56, Try.ntmps56
  go_wp2
  have l1 := HL.out (w.alloc (.cells #[.int .i64 i, .int .u8 c] 75)) (below_alloc (Below.refl _ _) _)
  have l2 := fun m => HL.out ((w.alloc (.cells #[.int .i64 i, .int .u8 c] 75)).drewN m) (pw_below_drewN (below_alloc (Below.refl _ _) _) m)
  go_quiet (fail)
  clear l1 l2
  go_wp2
  have hbw : Below w.heap.size w ((w.alloc (.cells #[.int .i64 i, .int .u8 c] 75)).drewN nq) := pw_below_drewN (below_alloc (Below.refl _ _) _) nq
  have hne := blk_new w (.cells #[.int .i64 i, .int .u8 c] 75)
  have hsz : w.heap.size < ((w.alloc (.cells #[.int .i64 i, .int .u8 c] 75)).drewN nq).heap.size := by simp
  have he0 : ((w.alloc (.cells #[.int .i64 i, .int .u8 c] 75)).drewN nq).heap[w.heap.size]? = some (.cells #[.int .i64 i, .int .u8 c] 75) := hne
  obtain ⟨W1, hW1⟩ : ∃ W, (w.alloc (.cells #[.int .i64 i, .int .u8 c] 75)).drewN nq = W := ⟨_, rfl⟩
  rw [hW1] at hbw hsz he0 ⊢
  clear hW1 hne x0 x1
  have K3 := Aside0.mk ((hbw.block b hbl).trans H3.out)
  have K4 := Aside0.mk (ownsRow_below H4.out hbw)
  have K5 := Aside0.mk (ownsMap_below H5.out hbw)
  have KB : Aside0 (Below base w0 W1) := ⟨HB.out.trans (hbw.mono hb0)⟩
  obtain ⟨x0, x1, _⟩ := block_cells K3.out
  obtain ⟨y0, y1, _⟩ := block_cells he0
  clear he0 hbw
  go_still_tail 6, (by kernel_rfl)
  change wpList _ _ _ _ _ W1.drew
  have L3 : Aside0 (W1.drew.heap[b]? = some (.cells #[.slice (some ⟨g, 0, none⟩) P.length cap, .map (some mb)] 71)) := ⟨K3.out⟩
  have L4 : Aside0 (W1.drew.ownsRow base 67 4 (.slice (some ⟨g, 0, none⟩) P.length cap) P.length (nodeCells P wd)) := ⟨K4.out⟩
  have L5 : Aside0 (W1.drew.ownsMap Try.prog 75 (plainElem Try.prog 3) mb n D) := ⟨K5.out⟩
  have LB : Aside0 (Below base w0 W1.drew) := ⟨below_drew KB.out⟩
  have hsz2 : w.heap.size < W1.drew.heap.size := hsz
  clear K3 K4 K5 KB hsz x0 x1 y0 y1
  obtain ⟨W2, hW2⟩ : ∃ W, W1.drew = W := ⟨_, rfl⟩
  rw [hW2] at L3 L4 L5 LB hsz2 ⊢
  clear hW2
  have HBM := Aside0.mk (map_ne L5.out L3.out)
  obtain ⟨cur, hcur⟩ := row_block L4.out
  have HGM := Aside0.mk (map_ne L5.out hcur)
  have HBG := Aside0.mk (row_ne L4.out L3.out)
  have HGB : Aside0 (base ≤ g) := ⟨(L4.out.lt g rfl).1⟩
  clear hcur
  obtain ⟨i0, hi0, hz0, hz1, hz2⟩ := info_parts info67
  go_wp2_with ((at_mapUpdate; (refine wpList_mapUpdate_own _ rfl _ _ _ 69 rfl 75 3 klaw Try.underlying69 (plainElem Try.prog 3) mb n D rfl L5.out (by unfold maxLen; omega) _ _ (kl i c) rfl rfl HKL.out _ [] (plainElem_int Try.underlying3 (wf64 (n := (P.length : Int)) (by omega) (by omega))) ?_; intro w1 hown1 hgrow1; have M5 := Aside0.mk hown1; have M3 : Aside0 (w1.heap[b]? = some (.cells #[.slice (some ⟨g, 0, none⟩) P.length cap, .map (some mb)] 71)) := ⟨(hgrow1.block b (by show b < W2.heap.size; omega) (fun e => HBM.out (Option.some.inj e))).trans L3.out⟩; have M4 : Aside0 (w1.ownsRow base 67 4 (.slice (some ⟨g, 0, none⟩) P.length cap) P.length (nodeCells P wd)) := ⟨World.ownsRow.kept L4.out hgrow1 (.inr (fun e => HGM.out (Option.some.inj e)))⟩; have MB : Aside0 (Below base w0 w1) := ⟨LB.out.grown hgrow1 (by show base ≤ W2.heap.size; omega) (fun k hk => by cases hk; exact h2)⟩; have hs1 : W2.heap.size ≤ w1.heap.size := hgrow1.size; clear hown1 hgrow1; obtain ⟨x0, x1, xf⟩ := block_cells M3.out; obtain ⟨f0, f1, f2, f3⟩ := row_cells M4.out HI.out)))
  simp only [Act.put]
  have hsl1 : (s.length : Int) + 1 ≤ 9223372036854775807 := by omega
  have k1 : ((i : Nat) : Int) < (P.length : Int) := by omega
  have hbl1 : b < w1.heap.size := by omega
  have hbl2 : ¬ b = w1.heap.size := by omega
  have q1 : P.length + 1 ≤ maxLen := by unfold maxLen; omega
  have q2 : (P.length + 1) * 32 ≤ 140737488355328 := by omega
  have q3 : base ≤ (w1.alloc (.cells #[.int .i64 i, .int .i64 ((s.length : Int) + 1), .int .i64 (-1), .int .u8 c] 67)).heap.size := by simp; omega
  have q4 : b < (w1.alloc (.cells #[.int .i64 i, .int .i64 ((s.length : Int) + 1), .int .i64 (-1), .int .u8 c] 67)).heap.size := by simp; omega
  have q5 : 0 < P.length + 1 := by omega
  have Q1 := Aside0.mk q1
  have Q2 := Aside0.mk q2
  have Q3 := Aside0.mk q3
  have Q4 := Aside0.mk q4
  have Q5 : Aside0 ((w1.alloc (.cells #[.int .i64 i, .int .i64 ((s.length : Int) + 1), .int .i64 (-1), .int .u8 c] 67)).heap[b]? = some (.cells #[.slice (some ⟨g, 0, none⟩) P.length cap, .map (some mb)] 71)) := ⟨blk_on M3.out (below_alloc (Below.refl _ _) _)⟩
  clear q1 q2 q3 q4
  have hwr : IntKind.i64.wrap ((s.length : Int) + 1) = (s.length : Int) + 1 := IntWalk.i64_in _ (by omega)
  go_region_law (refine step_own rfl (.tmp 40) (.tmp 53) 68 rfl base 67 i0 _ 4 32 Try.underlying68 hi0 hz0 hz1 hz2 rfl (by decide) _ _ _ rfl (World.ownsRow.alloc M4.out (.cells #[.int .i64 i, .int .i64 ((s.length : Int) + 1), .int .i64 (-1), .int .u8 c] 67)) ⟨w1.heap.size, 0, none⟩ 1 1 [.int .i64 i, .int .i64 ((s.length : Int) + 1), .int .i64 (-1), .int .u8 c] rfl rfl (new_cells w1 _ _ _ _ _) (by intro u hu; simp at hu; rcases hu with rfl | rfl | rfl | rfl <;> rfl) Q1.out Q2.out Q3.out ?_; intro v2 w2 hown2 hgrow2 hn_; clear hn_; obtain ⟨g2, cap2, rfl⟩ := row_form hown2 q5; have N4 := Aside0.mk hown2; have N3 : Aside0 (w2.heap[b]? = some (.cells #[.slice (some ⟨g, 0, none⟩) P.length cap, .map (some mb)] 71)) := ⟨(hgrow2.block b Q4.out (fun e => HBG.out (Option.some.inj e))).trans Q5.out⟩; have NG : Aside0 ((w1.alloc (.cells #[.int .i64 i, .int .i64 ((s.length : Int) + 1), .int .i64 (-1), .int .u8 c] 67)).grownBy w2 (some g)) := ⟨⟨hgrow2.os, hgrow2.tape, hgrow2.output, hgrow2.size, hgrow2.block⟩⟩; clear hown2 hgrow2; obtain ⟨z0, z1, zf⟩ := block_cells N3.out; have zf0 := zf 0; clear zf)
  all_goals
    clear hwr
    have hD := Aside0.mk (grow_done HG.out HT.out HI.out c0 c1 HM.out hl HW.out h1 h2 h6 (by omega) HBM.out HGM.out HGB.out M5.out MB.out NG.out N4.out N3.out)
    go_wp2
    go_ret
    exact ⟨rfl, hD.out.1, hD.out.2⟩
end Go.Proofs.Ytifbcboefopioaa.Tri
