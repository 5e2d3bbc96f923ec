/- By hand: the contract of trie.Build: texts as a tree of their beginnings. No condition but the texts' sizes. -/
import Derived.Test.YtifbcboefopioaaTriG
import Derived.Laws.OwnMore
set_option linter.unusedVariables false
namespace Go.Proofs.Ytifbcboefopioaa.Tri
open Go.RowKit Go.Maps Go.Proofs.YtifbcboefopioaaW.PrintWords Go.Proofs.YtifbcboefopioaaW.PrintLast Go.Proofs.YtifbcboefopioaaW.PrintMore Go.Proofs.Ytifbcboefopioaa.Kit
attribute [local go_sem] max2_int min2_int max_two min_two max_three min_three max_four min_four

theorem grow_at {w : World} {base b : Nat} {P : List Txt} {wd : Txt → Int} (hG : Good P) (h : TreeAt w base b P wd) (hl : P.length ≤ 1099511627776) (i : Nat) (s : Txt) (hi : P[i]? = some s) (hsl : s.length ≤ 1099511627776) (c : Int) (c0 : 0 ≤ c) (c1 : c ≤ 255)
    (hwd : s ++ [c] ∉ P → wd (s ++ [c]) = -1) (w0 : World) (hB : Below base w0 w) (hb0 : base ≤ w.heap.size) :
    Calls Try.prog 56 #[.pointer (some ⟨b, 0, none⟩), .int .i64 i, .int .u8 c] w fun e w' => e = .returned (.int .i64 (place (addP P (s ++ [c])) (s ++ [c]))) ∧ TreeAt w' base b (addP P (s ++ [c])) wd ∧ Below base w0 w' := by
  by_cases hm : s ++ [c] ∈ P
  · have e : addP P (s ++ [c]) = P := if_pos hm
    rw [e]
    exact (grow_old h (by omega) i s hi c c0 c1 hm).mono fun e w' ⟨he, hb⟩ => ⟨he, h.below hb, hB.trans (hb.mono hb0)⟩
  · have e : addP P (s ++ [c]) = P ++ [s ++ [c]] := if_neg hm
    rw [e, place_new hm]
    exact grow_new hG h hl i s hi hsl c c0 c1 hm (hwd hm) w0 hB hb0
theorem nodeCells_congr {P : List Txt} {wd wd' : Txt → Int} (h : ∀ x ∈ P, wd' x = wd x) : nodeCells P wd' = nodeCells P wd := by
  unfold nodeCells
  rw [List.flatMap_def, List.flatMap_def]
  congr 1
  apply List.map_congr_left
  intro s hs
  unfold nodeOf
  rw [h s hs]
theorem TreeAt.congr {w : World} {base b : Nat} {P : List Txt} {wd wd' : Txt → Int} (h : TreeAt w base b P wd) (hw : ∀ x ∈ P, wd' x = wd x) : TreeAt w base b P wd' := by
  obtain ⟨g, cap, mb, n, D, h1, h2, h3, h4, h5⟩ := h
  exact ⟨g, cap, mb, n, D, h1, h2, h3, by rw [nodeCells_congr hw]; exact h4, h5⟩
/-- All that a store into a node's word needs, and what it leaves. -/
theorem TreeAt.word {w : World} {base b : Nat} {P : List Txt} {wd : Txt → Int} (hG : Good P) (h : TreeAt w base b P wd) {i : Nat} {s : Txt} (hi : P[i]? = some s) (wd' : Txt → Int) (hw : ∀ x ∈ P, x ≠ s → wd' x = wd x) :
    ∃ g cap, w.cell? ⟨b, 0, none⟩ = some (.slice (some ⟨g, 0, none⟩) P.length cap) ∧ base ≤ g ∧ w.cell? ⟨g, i * 4 + 2, none⟩ = some (.int .i64 (wd s)) ∧ w.frozen? ⟨g, i * 4 + 2, none⟩ = false ∧
      TreeAt (w.setCell ⟨g, i * 4 + 2, none⟩ (.int .i64 (wd' s))) base b P wd' := by
  obtain ⟨g, cap, mb, n, D, h1, h2, h3, h4, h5, h6⟩ := h
  obtain ⟨x0, _, _⟩ := block_cells h3
  obtain ⟨_, _, f2, _⟩ := row_cells h4 hi
  obtain ⟨k1, k2⟩ := h4.stored (i * 4 + 2) (.int .i64 (wd' s))
  rw [nodeCells_set hG.nodup wd wd' hi hw] at k1
  obtain ⟨cur, hcur⟩ := row_block h4
  have hbg := row_ne h4 h3
  have hgm := map_ne h5 hcur
  refine ⟨g, cap, x0, (h4.lt g rfl).1, f2, h4.frozenAt _, g, cap, mb, n, D, h1, h2, ?_, k1, h5.kept k2 (fun e => hgm (Option.some.inj e).symm), h6⟩
  exact (k2.block b (Array.getElem?_eq_some_iff.1 h3).1 (fun e => hbg (Option.some.inj e))).trans h3
theorem place_snoc (l : List Txt) (s x : Txt) : place (l ++ [s]) x = if x ∈ l then place l x else if x = s then (l.length : Int) else -1 := by
  by_cases h : x ∈ l
  · rw [if_pos h, place_append h]
  · rw [if_neg h]
    by_cases e : x = s
    · subst e
      rw [if_pos rfl, place_new h]
    · rw [if_neg e, place_no (by simp [h, e])]
/-- The tree of no texts. -/
theorem tree_start (w : World) : TreeAt (((w.alloc (.cells #[.int .i64 (-1), .int .i64 0, .int .i64 (-1), .int .u8 0] 67)).alloc (.map #[] 0)).alloc (.cells #[.slice (some ⟨w.heap.size, 0, none⟩) 1 1, .map (some (w.heap.size + 1))] 71)) w.heap.size (w.heap.size + 2) [[]] (place []) := by
  refine ⟨w.heap.size, 1, w.heap.size + 1, 0, .map [], by omega, by omega, ?_, ?_, ?_, by simp, mapIs_root⟩
  · have := blk_new ((w.alloc (.cells #[.int .i64 (-1), .int .i64 0, .int .i64 (-1), .int .u8 0] 67)).alloc (.map #[] 0)) (.cells #[.slice (some ⟨w.heap.size, 0, none⟩) 1 1, .map (some (w.heap.size + 1))] 71)
    simpa using this
  · have h0 : (w.alloc (.cells #[.int .i64 (-1), .int .i64 0, .int .i64 (-1), .int .u8 0] 67)).ownsRow w.heap.size 67 4 (.slice (some ⟨w.heap.size, 0, none⟩) 1 1) 1 (nodeCells [[]] (place [])) :=
      ⟨rfl, .inr ⟨w.heap.size, 1, _, rfl, Nat.le_refl _, blk_new w _, Nat.le_refl _, by unfold maxLen; omega, rfl, rfl⟩⟩
    exact (h0.alloc _).alloc _
  · have h0 := World.ownsMap_made (w.alloc (.cells #[.int .i64 (-1), .int .i64 0, .int .i64 (-1), .int .u8 0] 67)) Try.prog 75 (plainElem (H := Unit) Try.prog 3)
    have h1 := h0.alloc (.cells #[.slice (some ⟨w.heap.size, 0, none⟩) 1 1, .map (some (w.heap.size + 1))] 71)
    simpa using h1
set_option maxHeartbeats 8000000 in
theorem build_at (w : World) (A : Option Addr) (c : Nat) (L : List Txt) (hr : Kd.C (Kd.slice 5 (Kd.int .u8)) w A L.length L) (hB : ∀ s ∈ L, Bytes s) (h1 : L.length ≤ 1000) (h2 : ∀ s ∈ L, s.length ≤ 1000) :
    Calls Try.prog 21 #[.slice A L.length c] w fun e w' => ∃ b, e = .returned (.pointer (some ⟨b, 0, none⟩)) ∧ TreeAt w' w.heap.size b (pathsL L) (place L) ∧ Below w.heap.size w w' := by
  have HR := Aside0.mk hr
  have HB := Aside0.mk hB
  have H2 := Aside0.mk h2
  clear hr hB h2
  have hmm := @run_makeMap Try.prog
  go_enter Try.func21, Try.ntmps21
  go_wp2
  have hst := tree_start w
  have hbs : Below w.heap.size w (((w.alloc (.cells #[.int .i64 (-1), .int .i64 0, .int .i64 (-1), .int .u8 0] 67)).alloc (.map #[] 0)).alloc (.cells #[.slice (some ⟨w.heap.size, 0, none⟩) 1 1, .map (some (w.heap.size + 1))] 71)) := below_alloc (below_alloc (below_alloc (Below.refl _ _) _) _) _
  obtain ⟨W0, hW0⟩ : ∃ W, ((w.alloc (.cells #[.int .i64 (-1), .int .i64 0, .int .i64 (-1), .int .u8 0] 67)).alloc (.map #[] 0)).alloc (.cells #[.slice (some ⟨w.heap.size, 0, none⟩) 1 1, .map (some (w.heap.size + 1))] 71) = W := ⟨_, rfl⟩
  obtain ⟨b, hb⟩ : ∃ b, w.heap.size + 1 + 1 = b := ⟨_, rfl⟩
  rw [show w.heap.size + 2 = w.heap.size + 1 + 1 from rfl] at hst
  rw [hW0, hb] at hst
  rw [hW0] at hbs ⊢
  rw [hb]
  have HT0 := Aside0.mk hst
  have HB0 := Aside0.mk hbs
  clear hst hbs hW0 hb hmm
  go_loopw [16] (fun v16 w' => ∃ i : Nat, v16 = .int .i64 i ∧ i ≤ L.length ∧ Aside0 (TreeAt w' w.heap.size b (pathsL (L.take i)) (place (L.take i))) ∧ Aside0 (Below w.heap.size w w')) (fun v16 _ => L.length - (intOf v16).toNat)
  case atStart => exact ⟨0, rfl, Nat.zero_le _, HT0, HB0⟩
  case round =>
    obtain ⟨i, rfl, hi, HT, HW⟩ := hrel
    by_cases hlt : i < L.length
    · obtain ⟨ad, A0, c0, rfl, hx, hc0, hC⟩ := All.at_L1 HR.out (i : Int) (by omega) (by omega)
      simp only [Int.toNat_natCast] at hx
      have hs : L[i]? = some (All.rd_L1 L i) := by simp [All.rd_L1, List.getD_eq_getElem?_getD, hlt]
      obtain ⟨s, hse⟩ : ∃ s, All.rd_L1 L i = s := ⟨_, rfl⟩
      rw [hse] at hx hc0 hC hs
      have hmem := List.mem_of_getElem? hs
      have hsl := H2.out s hmem
      have HBS := Aside0.mk (HB.out s hmem)
      have htk : L.take (i + 1) = L.take i ++ [s] := by
        rw [List.take_succ_eq_append_getElem hlt]
        congr 1
        rw [(List.getElem?_eq_some_iff.1 hs).2]
      have hpa : pathsL (L.take (i + 1)) = addAll (pathsL (L.take i)) s s.length := by rw [htk]; exact pathsFrom_snoc _ _ _
      have hG := pathsL_good (L.take i)
      have hPl : (pathsL (L.take i)).length ≤ 1000001 := by
        have h0 := pathsFrom_len (L.take i) [[]] 1000 (fun x hx => H2.out x (List.mem_of_mem_take hx))
        have h3 : (L.take i).length ≤ 1000 := by rw [List.length_take]; omega
        have h4 : (L.take i).length * 1000 ≤ 1000 * 1000 := Nat.mul_le_mul_right _ h3
        have h5 : ([[]] : List Txt).length = 1 := rfl
        unfold pathsL
        omega
      have hall : ∀ x ∈ L.take i, x ∈ pathsL (L.take i) := pathsL_mem (L.take i)
      obtain ⟨P, hP⟩ : ∃ P, pathsL (L.take i) = P := ⟨_, rfl⟩
      rw [hP] at HT hpa hG hPl hall
      replace hx := (HW.out.cell (World.block_lt_of_cell? w _ hx)).trans hx
      have HC := Aside0.mk hC
      have HG := Aside0.mk hG
      have HAL := Aside0.mk hall
      have HPA := Aside0.mk hpa
      have HTK := Aside0.mk htk
      have k1 : ((i : Nat) : Int) < (L.length : Int) := by omega
      have htl : (L.take i).length = i := by rw [List.length_take]; omega
      have HTL := Aside0.mk htl
      clear hC hG hall hpa htk hse hP hs hmem htl
      go_wp2
      obtain ⟨wo, rfl⟩ : ∃ wo : World, wo = wr := ⟨_, rfl⟩
      go_loopw [6, 23] (fun v6 v23 w2 => ∃ k : Nat, v23 = .int .i64 k ∧ k ≤ s.length ∧ v6 = .int .i64 (place (addAll P s k) (s.take k)) ∧ Aside0 (TreeAt w2 w.heap.size b (addAll P s k) (place (L.take i))) ∧ Aside0 (Below w.heap.size w w2)) (fun _ v23 _ => s.length - (intOf v23).toNat)
      case atStart => exact ⟨0, rfl, Nat.zero_le _, by rw [List.take_zero, addAll, HG.out.nil_at], HT, HW⟩
      case round =>
        obtain ⟨k, rfl, hk, rfl, HT2, HW2⟩ := hrel
        have HC2 := Aside0.mk (Kd.C_below HC.out HW2.out)
        by_cases hk2 : k < s.length
        · obtain ⟨ad2, rfl, hx2⟩ := Kd.at_int HC2.out (k : Int) (by omega) (by omega)
          simp only [Int.toNat_natCast] at hx2
          have hrd : rd s k = s[k] := by simp [rd, List.getD_eq_getElem?_getD, hk2]
          have hcb := HBS.out _ (List.getElem_mem hk2)
          rw [← hrd] at hcb
          obtain ⟨hcb0, hcb1⟩ := hcb
          obtain ⟨hGk, hmk⟩ := addAll_spec HG.out s k hk
          obtain ⟨j, hj⟩ := List.mem_iff_getElem?.1 hmk
          have hlk := (addAll_len P s k).2
          have hts := take_snoc s k hk2
          have hpre := addAll_pre P s k
          have hwd : s.take k ++ [rd s k] ∉ addAll P s k → place (L.take i) (s.take k ++ [rd s k]) = -1 := fun hn => place_no (fun hm => hn (by
            obtain ⟨m, hm2⟩ := hpre
            rw [hm2]
            exact List.mem_append_left _ (HAL.out _ hm)))
          have hgr := grow_at hGk HT2.out (by omega) j (s.take k) hj (by rw [List.length_take]; omega) (rd s k) hcb0 hcb1 hwd w HW2.out (below_size HW2.out)
          rw [← hts] at hgr
          have HGR := Aside0.mk hgr
          have hpj := place_at hGk.nodup hj
          rw [hpj]
          have j1 : ((k : Nat) : Int) < (s.length : Int) := by omega
          clear hrd hGk hmk hj hlk hts hpre hwd hgr hpj
          go_wp2_with (go_at_call 56; refine HGR.out.mono ?_; rintro e w3 ⟨rfl, ht, hb⟩; have HT3 := Aside0.mk ht; have HW3 := Aside0.mk hb; clear ht hb)
          go_roundw
          case rel => exact ⟨k + 1, by go_num, by omega, rfl, HT3, HW3⟩
          case measure => simp [intOf]; omega
        · obtain rfl : k = s.length := by omega
          obtain ⟨hGk, hmk⟩ := addAll_spec HG.out s s.length (Nat.le_refl _)
          rw [List.take_length] at hmk
          obtain ⟨j, hj⟩ := List.mem_iff_getElem?.1 hmk
          have hpj := place_at hGk.nodup hj
          have hjl := (List.getElem?_eq_some_iff.1 hj).1
          rw [List.take_length, hpj]
          have j1 : ¬ ((s.length : Nat) : Int) < (s.length : Int) := by omega
          have j2 : ((j : Nat) : Int) < ((addAll P s s.length).length : Int) := by omega
          have hsn := fun x => place_snoc (L.take i) s x
          rw [← HTK.out, HTL.out] at hsn
          have hWD : ∀ x ∈ addAll P s s.length, x ≠ s → place (L.take (i + 1)) x = place (L.take i) x := by
            intro x _ hne
            rw [hsn x, if_neg hne]
            split
            · rfl
            · rw [place_no (by assumption)]
          by_cases hin : s ∈ L.take i
          · have hge : 0 ≤ place (L.take i) s := place_pos.2 hin
            have HN := Aside0.mk (HT2.out.congr (wd' := place (L.take (i + 1))) (fun x hx => by
              by_cases hne : x = s
              · rw [hsn x, if_pos (hne ▸ hin)]
              · exact hWD x hx hne))
            obtain ⟨g, cap, mb, x0, x1, f0, f1, f2, f3⟩ := HT2.out.reads hj
            clear hsn hWD hpj hj hGk hmk hin
            go_wp2
            go_roundw
            case rel => exact ⟨i + 1, by go_num, by omega, ⟨by rw [HPA.out]; exact HN.out⟩, HW2⟩
            case measure => simp [intOf]; omega
          · have hlt0 : place (L.take i) s = -1 := place_no hin
            have hnew : place (L.take (i + 1)) s = (i : Int) := by rw [hsn s, if_neg hin, if_pos rfl]
            obtain ⟨g, cap, x0, hgb, f2, fz, hT⟩ := TreeAt.word hGk HT2.out hj (place (L.take (i + 1))) hWD
            rw [hnew] at hT
            rw [hlt0] at f2
            have HN := Aside0.mk hT
            clear hsn hWD hpj hj hGk hmk hin hlt0 hnew hT
            go_wp2
            go_roundw
            case rel => exact ⟨i + 1, by go_num, by omega, ⟨by rw [HPA.out]; exact HN.out⟩, ⟨below_set HW2.out hgb⟩⟩
            case measure => simp [intOf]; omega
    · obtain rfl : i = L.length := by omega
      have k1 : ¬ ((L.length : Nat) : Int) < (L.length : Int) := by omega
      go_wp2
      go_ret
      exact ⟨b, rfl, by have := HT.out; rwa [List.take_length] at this, HW.out⟩
end Go.Proofs.Ytifbcboefopioaa.Tri
