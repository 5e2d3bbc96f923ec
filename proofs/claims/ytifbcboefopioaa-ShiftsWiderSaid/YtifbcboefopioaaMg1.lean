/- Several texts in one (BackT, BackM, BackP, BackB, BackE, BackA, Refs3, BackL, BackQ), none of them changed. No condition. -/
import Derived.Test.YtifbcboefopioaaTriL2
import Derived.Lib.LazyBuf
import Derived.Test.YtifbcboefopioaaTriApp
import Derived.Test.YtifbcboefopioaaRefs2
import Derived.Test.YtifbcboefopioaaAllx2
import Derived.Test.YtifbcboefopioaaAllx3
/-! By hand: slices.Clone and back.Turn. No condition. -/
set_option linter.unusedVariables false
namespace Go.Proofs.Ytifbcboefopioaa.Tri
open Go.RowKit Go.Maps Go.Proofs.YtifbcboefopioaaW.PrintWords Go.Proofs.YtifbcboefopioaaW.PrintLast Go.Proofs.YtifbcboefopioaaW.PrintMore Go.Proofs.Ytifbcboefopioaa.Kit Go.Proofs.Ytifbcboefopioaa.All
attribute [local go_sem] max2_int min2_int max_two min_two max_three min_three max_four min_four

set_option maxHeartbeats 8000000 in
set_option maxRecDepth 100000 in
theorem clone_at (A0 : Option Addr) (c0 : Nat) (l0 : List Int) (w : World) (hr0 : Kd.C (Kd.int .u8) w A0 l0.length l0) (hc0 : l0.length ≤ c0) (hm : l0.length ≤ 140737488355328) :
    Calls Try.prog 60 #[.slice A0 l0.length c0] w fun e w' => ∃ v0_ : Value, e = .returned v0_ ∧ Kd.R (Kd.int .u8) 5 w' w.heap.size (fun _ => True) v0_ l0 ∧ Below w.heap.size w w' := by
  have q32 : ∀ (w : World) (a : Option Addr) (n c : Nat), (binOp .eql 32 (.slice a n c) (.slice none 0 0)).run Try.prog w = .ok (.bool a.isNone) w := fun w a n c => Go.run_eql_slice_nil w 32 5 a n c Try.underlying32
  rcases A0 with _ | ad
  · have h0 : l0.length = 0 := by
      rcases Nat.eq_zero_or_pos l0.length with h0 | h0
      · exact h0
      · obtain ⟨ad, h, _⟩ := hr0.2.2 h0
        cases h
    obtain rfl : l0 = [] := List.eq_nil_of_length_eq_zero h0
    go_enter Try.func60, Try.ntmps60
    go_wp2
    go_ret
    exact ⟨_, rfl, Kd.R_nil _ _ _ _ _, Below.refl _ _⟩
  · have HR0 := Aside0.mk hr0
    have HC0 := Aside0.mk hc0
    clear hr0 hc0
    go_enter Try.func60, Try.ntmps60
    go_wp2_with ((with_reducible refine gate_builtin (b := .append) (xs := #[.tmp 5, .tmp 6]) rfl ?_); at_builtin; refine Kd.R_append_rows (Kd.int .u8) (w0 := w) w.heap.size rfl (.tmp 5) (.tmp 6) 32 5 (.int .u8 0) 1 rfl Try.underlying32 All.info5 rfl (by decide) (by omega) (.slice (some ⟨w.heap.size, 0, none⟩) 0 0) [] l0 (some ad) l0.length c0 (fun _ => True) (fun _ => False) rfl rfl ?aO ?aR (fun _ _ h => h) (fun _ h => h.elim) ?aF ?aB ?aS ?aL ?_; (case aR => exact Kd.C_alloc HR0.out _); (case aB => exact below_alloc (Below.refl _ _) _); (case aF => exact (fun _ _ => trivial)); (case aO => exact ⟨fun _ _ => trivial, [], World.ownsRow_made w #[] 0 (Nat.le_refl _) (Nat.zero_le _) rfl, Reps.none _ _⟩); (case aS => simp); (case aL => simp; omega); intro v1 w1 ho hb hg hat; have HO1 := Aside0.mk ho; have HB1 := Aside0.mk hb; clear ho hb hg hat)
    go_ret
    exact ⟨_, rfl, by simpa using HO1.out, HB1.out⟩

theorem turn_at (A0 : Option Addr) (c0 : Nat) (l0 : List Int) (w : World) (hr0 : Kd.C (Kd.int .u8) w A0 l0.length l0) (hc0 : l0.length ≤ c0) (hm : l0.length ≤ 140737488355328) :
    Calls Try.prog 44 #[.slice A0 l0.length c0] w fun e w' => ∃ v, e = .returned v ∧ Kd.R (Kd.int .u8) 5 w' w.heap.size (fun _ => True) v l0.reverse ∧ Below w.heap.size w w' := by
  have HR := Aside0.mk hr0
  have HC := Aside0.mk hc0
  have RF := Aside0.mk (reverse_f l0 (by omega))
  clear hr0 hc0
  go_enter Try.func44, Try.ntmps44
  go_wp2_with (first
    | (go_at_call 60; (refine (clone_at A0 c0 l0 w HR.out HC.out hm).mono ?_); rintro e w1 ⟨v, rfl, ho, hb⟩; have HO := Aside0.mk ho; have HB := Aside0.mk hb; clear ho hb)
    | (go_at_call 58; (refine (All.slices_Reverse_byte_byte.calls _ (fun _ => True) v _ _ w w1 HB.out HO.out RF.out).mono ?_); rintro e w2 ⟨rfl, ho, hb, _⟩; have HO2 := Aside0.mk ho; have HB2 := Aside0.mk hb; clear ho hb))
  go_ret
  exact ⟨_, rfl, Kd.R_mono HO2.out (fun _ _ => trivial), HB2.out⟩
end Go.Proofs.Ytifbcboefopioaa.Tri

/-! By hand: a tree from the ends in memory, and its small methods. No condition. -/
set_option linter.unusedVariables false
namespace Go.Proofs.Ytifbcboefopioaa.Tri
open Go.RowKit Go.Maps Go.Proofs.YtifbcboefopioaaW.PrintWords Go.Proofs.YtifbcboefopioaaW.PrintLast Go.Proofs.YtifbcboefopioaaW.PrintMore Go.Proofs.Ytifbcboefopioaa.Kit Go.Proofs.Ytifbcboefopioaa.All
attribute [local go_sem] max2_int min2_int max_two min_two max_three min_three max_four min_four

/-- A tree from the ends: its tree, the least length, the nearest place of each byte. -/
def bArr (tp : Value) (least : Int) (near : List Int) : Array Value := (tp :: .int .i64 least :: nums .i64 near).toArray
def BackIs (w : World) (g : Nat) (tp : Value) (least : Int) (near : List Int) : Prop := near.length = 256 ∧ w.heap[g]? = some (.cells (bArr tp least near) 47 (0, 0))
section
variable {w : World} {g : Nat} {tp : Value} {least : Int} {near : List Int}
theorem BackIs.below {w1 : World} (h : BackIs w g tp least near) (hb : Below w.heap.size w w1) : BackIs w1 g tp least near := ⟨h.1, blk_below h.2 hb⟩
theorem stays_back (g : Nat) (tp : Value) (least : Int) (near : List Int) : Stays (fun w => BackIs w g tp least near) := fun w w' h hb => h.below hb
theorem BackIs.tr (h : BackIs w g tp least near) : w.cell? ⟨g, 0, none⟩ = some tp := by rw [blk_cell h.2]; rfl
theorem BackIs.lst (h : BackIs w g tp least near) : w.cell? ⟨g, 1, none⟩ = some (.int .i64 least) := by rw [blk_cell h.2]; rfl
theorem BackIs.nr (h : BackIs w g tp least near) (c : Nat) (hc : c < 256) : w.cell? ⟨g, 2 + c, none⟩ = some (.int .i64 (rd near (c : Int))) := by
  rw [blk_cell h.2, bArr]
  have : c < near.length := by rw [h.1]; exact hc
  rw [List.getElem?_toArray, show 2 + c = c + 1 + 1 by omega, List.getElem?_cons_succ, List.getElem?_cons_succ]
  simp [nums, rd, List.getD_eq_getElem?_getD, this]
theorem least_at (h : BackIs w g tp least near) : Calls Try.prog 37 #[.pointer (some ⟨g, 0, none⟩)] w fun e w' => e = .returned (.int .i64 least) ∧ w' = w := by
  have h1 := h.lst
  go_enter Try.func37, Try.ntmps37
  go_wp2
  go_ret
  exact ⟨rfl, rfl⟩
theorem least_nil (w : World) : Calls Try.prog 37 #[.pointer none] w fun e w' => e = .returned (.int .i64 0) ∧ w' = w := by
  go_enter Try.func37, Try.ntmps37
  go_wp2
  go_ret
  exact ⟨rfl, rfl⟩
theorem near_at (h : BackIs w g tp least near) (c : Nat) (hc : c < 256) : Calls Try.prog 42 #[.pointer (some ⟨g, 0, none⟩), .int .u8 c] w fun e w' => e = .returned (.int .i64 (rd near (c : Int))) ∧ w' = w := by
  have h1 := h.nr c hc
  have c0 : (0 : Int) ≤ (c : Int) := by omega
  have c1 : (c : Int) < 256 := by omega
  go_enter Try.func42, Try.ntmps42
  go_wp2
  go_ret
  exact ⟨rfl, rfl⟩
theorem closer_at (old n : Int) (w : World) : Calls Try.prog 59 #[.int .i64 old, .int .i64 n] w fun e w' => e = .returned (.int .i64 (if old = 0 then n else min old n)) ∧ w' = w := by
  by_cases h : old = 0
  · subst h
    go_enter Try.func59, Try.ntmps59
    go_wp2
    go_ret
    exact ⟨by simp, rfl⟩
  · rw [if_neg h, Int.min_def]
    have h2 : (old == 0) = false := beq_eq_false_iff_ne.2 h
    go_enter Try.func59, Try.ntmps59
    go_wp2
    all_goals go_ret
    all_goals refine ⟨?_, rfl⟩
    all_goals first | rfl | (rw [if_pos (by omega)]) | (rw [if_neg (by omega)]) | (simp; omega)
end
end Go.Proofs.Ytifbcboefopioaa.Tri

/-! Plain: texts turned round, the least length, the nearest places. No condition. -/
set_option linter.unusedVariables false
namespace Go.Proofs.Ytifbcboefopioaa.Tri
open Go.RowKit Go.Proofs.YtifbcboefopioaaW.PrintWords Go.Proofs.YtifbcboefopioaaW.PrintLast Go.Proofs.YtifbcboefopioaaW.PrintMore Go.Proofs.Ytifbcboefopioaa.Kit

def closer (old n : Int) : Int := if old = 0 then n else min old n
/-- The texts that are not empty, each turned round. -/
def TL (L : List Txt) : List Txt := (L.filter fun s => s ≠ []).map List.reverse
theorem TL_nil : TL [] = [] := rfl
theorem TL_skip (L : List Txt) : TL (L ++ [[]]) = TL L := by simp [TL]
theorem TL_snoc (L : List Txt) {s : Txt} (h : s ≠ []) : TL (L ++ [s]) = TL L ++ [s.reverse] := by simp [TL, h]
theorem TL_len (L : List Txt) : (TL L).length ≤ L.length := by
  unfold TL
  rw [List.length_map]
  exact List.length_filter_le _ _
theorem TL_mem {L : List Txt} {x : Txt} : x ∈ TL L ↔ x ≠ [] ∧ x.reverse ∈ L := by
  unfold TL
  rw [List.mem_map]
  constructor
  · rintro ⟨s, hs, rfl⟩
    rw [List.mem_filter] at hs
    exact ⟨by simpa using hs.2, by simpa using hs.1⟩
  · rintro ⟨h1, h2⟩
    exact ⟨x.reverse, List.mem_filter.2 ⟨h2, by simpa using h1⟩, by simp⟩
def leastN (T : List Txt) : Int := T.foldl (fun a t => closer a t.length) 0
theorem leastN_snoc (T : List Txt) (t : Txt) : leastN (T ++ [t]) = closer (leastN T) t.length := by simp [leastN]
/-- The nearest places, beside the first k bytes of a text. -/
def nearT (N : List Int) (t : Txt) : Nat → List Int
  | 0 => N
  | k + 1 => (nearT N t k).set (t.getD k 0).toNat (closer (rd (nearT N t k) (t.getD k 0)) ((k : Int) + 1))
theorem nearT_len (N : List Int) (t : Txt) : ∀ k, (nearT N t k).length = N.length
  | 0 => rfl
  | k + 1 => by rw [nearT, List.length_set, nearT_len N t k]
def near0 : List Int := List.replicate 256 0
def nearN (T : List Txt) : List Int := T.foldl (fun N t => nearT N t t.length) near0
theorem nearN_snoc (T : List Txt) (t : Txt) : nearN (T ++ [t]) = nearT (nearN T) t t.length := by simp [nearN]
end Go.Proofs.Ytifbcboefopioaa.Tri

/-! By hand: back.Build. No condition. -/
set_option linter.unusedVariables false
namespace Go.Proofs.Ytifbcboefopioaa.Tri
open Go.RowKit Go.Maps Go.Proofs.YtifbcboefopioaaW.PrintWords Go.Proofs.YtifbcboefopioaaW.PrintLast Go.Proofs.YtifbcboefopioaaW.PrintMore Go.Proofs.Ytifbcboefopioaa.Kit Go.Proofs.Ytifbcboefopioaa.All
attribute [local go_sem] max2_int min2_int max_two min_two max_three min_three max_four min_four

theorem zero47 : Try.zeroCells47 = bArr (.pointer none) 0 near0 := by kernel_rfl
theorem bArr_least (tp : Value) (least x : Int) (near : List Int) : (bArr tp least near).setIfInBounds 1 (.int .i64 x) = bArr tp x near := by simp [bArr]
theorem bArr_tree (tp q : Value) (least : Int) (near : List Int) : (bArr tp least near).setIfInBounds 0 q = bArr q least near := by simp [bArr]
theorem bArr_near (tp : Value) (least x : Int) (near : List Int) (c : Nat) : (bArr tp least near).setIfInBounds (2 + c) (.int .i64 x) = bArr tp least (near.set c x) := by
  unfold bArr
  rw [List.setIfInBounds_toArray, show 2 + c = c + 1 + 1 by omega, List.set_cons_succ, List.set_cons_succ]
  simp [nums, List.map_set]
section
variable {w : World} {g : Nat} {tp : Value} {least : Int} {near : List Int}
theorem BackIs.setLeast (h : BackIs w g tp least near) (x : Int) : BackIs (w.setCell ⟨g, 1, none⟩ (.int .i64 x)) g tp x near := ⟨h.1, blk_put h.2 1 _ (bArr_least ..)⟩
theorem BackIs.setTree (h : BackIs w g tp least near) (q : Value) : BackIs (w.setCell ⟨g, 0, none⟩ q) g q least near := ⟨h.1, blk_put h.2 0 _ (bArr_tree ..)⟩
theorem BackIs.setNear (h : BackIs w g tp least near) (c : Nat) (x : Int) : BackIs (w.setCell ⟨g, 2 + c, none⟩ (.int .i64 x)) g tp least (near.set c x) := ⟨by rw [List.length_set]; exact h.1, blk_put h.2 (2 + c) _ (bArr_near ..)⟩
theorem BackIs.drew (h : BackIs w g tp least near) : BackIs w.drew g tp least near := ⟨h.1, h.2⟩
theorem BackIs.frozen (h : BackIs w g tp least near) (k : Nat) : w.frozen? ⟨g, k, none⟩ = false := blk_frozen h.2 k
end
theorem closer_c (old n : Int) (w : World) : Calls Try.prog 59 #[.int .i64 old, .int .i64 n] w fun e w' => e = .returned (.int .i64 (closer old n)) ∧ w' = w := closer_at old n w
theorem ty32 : ∀ q, q ∈ 32 :: (Kd.slice 5 (Kd.int .u8)).E → q ≠ 47 := by
  intro q hq
  simp [Kd.slice, Kd.int, Kd.scalar] at hq
  omega
/-- A store into an elder block. -/
theorem TreeAt.far {w : World} {base b : Nat} {P : List Txt} {wd : Txt → Int} (h : TreeAt w base b P wd) {p : Addr} (hp : p.block < base) (u : Value) : TreeAt (w.setCell p u) base b P wd := by
  have hg : w.grownBy (w.setCell p u) (some p.block) := ⟨rfl, rfl, rfl, by simp, fun k _ hk => heap_setCell_other w p k u (fun e => hk (by rw [e]))⟩
  obtain ⟨g, cap, mb, n, D, h1, h2, h3, h4, h5, h6⟩ := h
  refine ⟨g, cap, mb, n, D, h1, h2, blk_grown h3 hg (fun e => ?_), h4.kept hg (.inr (fun e => ?_)), h5.kept hg (fun e => ?_), h6⟩
  · have := Option.some.inj e
    omega
  · have := (h4.lt _ e).1
    omega
  · have := Option.some.inj e
    omega
theorem ty5 : ∀ q, q ∈ 5 :: (Kd.int .u8).E → q ≠ 47 := by
  intro q hq
  simp [Kd.int, Kd.scalar] at hq
  omega
set_option maxRecDepth 100000 in
set_option maxHeartbeats 1000000 in
theorem bbuild_at (w : World) (A : Option Addr) (c : Nat) (L : List Txt) (hr : Kd.C (Kd.slice 5 (Kd.int .u8)) w A L.length L) (hB : ∀ s ∈ L, Bytes s) (h1 : L.length ≤ 1000) (h2 : ∀ s ∈ L, s.length ≤ 1000) :
    Calls Try.prog 35 #[.slice A L.length c] w fun e w' => ∃ g base b, e = .returned (.pointer (some ⟨g, 0, none⟩)) ∧ BackIs w' g (.pointer (some ⟨b, 0, none⟩)) (leastN (TL L)) (nearN (TL L)) ∧ TreeAt w' base b (pathsL (TL L)) (place (TL L)) ∧ Below w.heap.size w w' := by
  have HR := Aside0.mk hr
  have HBB := Aside0.mk hB
  have H2 := Aside0.mk h2
  have bk0 : BackIs (w.alloc (.cells Try.zeroCells47 47)) w.heap.size (.pointer none) 0 near0 := ⟨List.length_replicate .., by rw [← zero47]; exact blk_new w _⟩
  have BK0 := Aside0.mk bk0
  clear hr hB h2 bk0
  go_enter Try.func35, Try.ntmps35
  go_upto_region 5 with (fail)
  go_loopw [5, 14] (fun v5 v14 w' => ∃ i : Nat, v14 = .int .i64 i ∧ i ≤ L.length ∧ Aside0 (Kd.R (Kd.slice 5 (Kd.int .u8)) 32 w' w.heap.size (fun _ => True) v5 (TL (L.take i))) ∧ Aside0 (BackIs w' w.heap.size (.pointer none) (leastN (TL (L.take i))) (nearN (TL (L.take i)))) ∧ Aside0 (Below w.heap.size w w')) (fun _ v14 _ => L.length - (intOf v14).toNat)
  case atStart => exact ⟨0, rfl, Nat.zero_le _, ⟨Kd.R_nil _ _ _ _ _⟩, BK0, ⟨below_alloc (Below.refl _ _) _⟩⟩
  case round =>
    obtain ⟨i, rfl, hi, HX, HK, HB⟩ := hrel
    by_cases hlt : i < L.length
    · have k1 : ((i : Nat) : Int) < (L.length : Int) := by omega
      have k0 : (0 : Int) ≤ (i : Int) := by omega
      obtain ⟨s, hs⟩ : ∃ s, L[i]? = some s := ⟨_, List.getElem?_eq_getElem hlt⟩
      have hsm := List.mem_of_getElem? hs
      have hs2 := H2.out s hsm
      have hrs : rd_L1 L (i : Int) = s := by simp [rd_L1, List.getD_eq_getElem?_getD, hs]
      obtain ⟨ad0, A', c', rfl, hx0, hc', hC'⟩ := at_L1 (Kd.C_below HR.out HB.out) (i : Int) k0 k1
      rw [hrs, Int.toNat_natCast] at hx0
      rw [hrs] at hC' hc'
      have htk : L.take (i + 1) = L.take i ++ [s] := by
        rw [List.take_add_one, hs]
        rfl
      have wk : IntKind.i64.wrap ((i : Int) + 1) = (i : Int) + 1 := IntWalk.i64_in _ (by omega)
      by_cases hs0 : s = []
      · have hl0 : ((s.length : Int) == 0) = true := by rw [hs0]; rfl
        have HT : Aside0 (TL (L.take (i + 1)) = TL (L.take i)) := ⟨by rw [htk, hs0, TL_skip]⟩
        clear hs hsm hrs hc' hC' htk hs0
        go_wp2
        go_roundw
        case rel => exact ⟨i + 1, by go_num, by omega, ⟨by rw [HT.out]; exact HX.out⟩, ⟨by rw [HT.out]; exact HK.out⟩, HB⟩
        case measure => simp [intOf]; omega
      · have hpos : 0 < s.length := List.length_pos_iff.2 hs0
        have hl0 : ((s.length : Int) == 0) = false := beq_eq_false_iff_ne.2 (by omega)
        have HT : Aside0 (TL (L.take (i + 1)) = TL (L.take i) ++ [s.reverse]) := ⟨by rw [htk, TL_snoc _ hs0]⟩
        have ta := turn_at A' c' s wr hC' hc' (by omega)
        obtain ⟨t, ht⟩ : ∃ t, t = s.reverse := ⟨_, rfl⟩
        have htl : t.length = s.length := by rw [ht, List.length_reverse]
        have htB : Bytes t := by
          intro x hx
          rw [ht, List.mem_reverse] at hx
          exact HBB.out s hsm x hx
        rw [← ht] at ta HT
        have TA := Aside0.mk ta
        have TB := Aside0.mk htB
        have tlen : t.length ≤ 1000 := by omega
        have hll := TL_len (L.take i)
        rw [List.length_take] at hll
        have XL : (TL (L.take i)).length ≤ 1000 := by omega
        clear hs hsm hrs hc' hC' htk hs0 ta ht htB hpos hll htl hs2
        go_upto_region 10 with (first
          | (go_at_call 44; (with_reducible refine TA.out.mono ?_); rintro e w1 ⟨v, rfl, ho, hb⟩; obtain ⟨_, hown⟩ := Kd.R_own HX.out; have HV1 := Aside0.mk (Kd.R_lower (Kd.R_new ho hown) (below_size HB.out)); have HX1 := Aside0.mk (Kd.R_below HX.out hb); have HK1 := Aside0.mk (HK.out.below hb); have HB1 := Aside0.mk (below_step HB.out hb); obtain ⟨A1, c1, rfl, hc1, _⟩ := Kd.R_reads ho; clear ho hb hown)
          | ((with_reducible refine gate_builtin (b := .append) (xs := #[.tmp 23, .tmp 25]) rfl ?_); at_builtin; refine Kd.R_append (Kd.slice 5 (Kd.int .u8)) (w0 := w) w.heap.size rfl (.tmp 23) (.tmp 25) 22 32 (.slice none 0 0) 24 rfl Try.underlying22 info32 rfl (by decide) (by decide) u5 (TL (L.take i)) t [.slice A1 t.length c1] (fun _ => True) (fun k => True ∧ some k ≠ u5.ownBlock) rfl rfl ?aP (fun _ hk => hk) (fun _ _ => trivial) HX1.out HB1.out (below_size HB1.out) (by omega) ?_; (case aP => exact ⟨_, rfl, HV1.out⟩); intro v3 w3 ho hb hg hat; have HV3 := Aside0.mk (Kd.R_grown HV1.out hg (fun k hk => hk.2)); have HK3 := Aside0.mk (show BackIs w3 w.heap.size (.pointer none) (leastN (TL (L.take i))) (nearN (TL (L.take i))) from ⟨HK1.out.1, blk_grown HK1.out.2 hg (Kd.R_ne HX1.out HK1.out.2 (by decide))⟩); have HX3 := Aside0.mk ho; have HB3 := Aside0.mk hb; clear ho hb hg hat))
        obtain ⟨lo, hlo⟩ : ∃ lo, leastN (TL (L.take i)) = lo := ⟨_, rfl⟩
        obtain ⟨N0, hN0⟩ : ∃ N0, nearN (TL (L.take i)) = N0 := ⟨_, rfl⟩
        rw [hlo, hN0] at HK3
        have HLO := Aside0.mk hlo
        have HN0 := Aside0.mk hN0
        have x1 := HK3.out.lst
        have fz := HK3.out.frozen 1
        have HX4 := Aside0.mk (Kd.R_set HX3.out HK3.out.2 ty32 1 (.int .i64 (closer lo t.length)))
        have HV4 := Aside0.mk (Kd.R_set HV3.out HK3.out.2 ty5 1 (.int .i64 (closer lo t.length)))
        have HK4 := Aside0.mk (HK3.out.setLeast (closer lo t.length))
        have HB4 := Aside0.mk (below_set (j := 1) (v := .int .i64 (closer lo t.length)) HB3.out (Nat.le_refl _))
        clear hlo hN0 HX1 HK1 HB1 HV1 HX3 HV3 HK3 HB3 TA
        go_wp2_with (first | (go_at_call 59; (with_reducible refine (closer_c _ _ _).mono ?_); rintro e w5 ⟨rfl, hw⟩; subst hw))
        go_loopw [40] (fun v40 w2 => ∃ k : Nat, v40 = .int .i64 k ∧ k ≤ t.length ∧ Aside0 (Kd.R (Kd.slice 5 (Kd.int .u8)) 32 w2 w.heap.size (fun _ => True) v3 (TL (L.take i) ++ [t])) ∧ Aside0 (Kd.R (Kd.int .u8) 5 w2 w.heap.size (fun k => True ∧ some k ≠ u5.ownBlock) (.slice A1 t.length c1) t) ∧ Aside0 (BackIs w2 w.heap.size (.pointer none) (closer lo t.length) (nearT N0 t k)) ∧ Aside0 (Below w.heap.size w w2)) (fun v40 _ => t.length - (intOf v40).toNat)
        case atStart => exact ⟨0, rfl, Nat.zero_le _, HX4, HV4, HK4, HB4⟩
        case round =>
          obtain ⟨k, rfl, hk, HX5, HV5, HK5, HB5⟩ := hrel
          by_cases hlk : k < t.length
          · have k2 : ((k : Nat) : Int) < (t.length : Int) := by omega
            obtain ⟨_, _, hC5⟩ := Kd.R_reads' HV5.out
            obtain ⟨ad, rfl, hx⟩ := Kd.at_int hC5 (k : Int) (by omega) k2
            rw [Int.toNat_natCast] at hx
            obtain ⟨x, hxk⟩ : ∃ x, t[k]? = some x := ⟨_, List.getElem?_eq_getElem hlk⟩
            have hrd : rd t (k : Int) = x := by simp [rd, List.getD_eq_getElem?_getD, hxk]
            have hxb := TB.out x (List.mem_of_getElem? hxk)
            obtain ⟨cn, rfl⟩ : ∃ cn : Nat, x = (cn : Int) := ⟨x.toNat, by omega⟩
            have cn256 : cn < 256 := by omega
            have hnt : nearT N0 t (k + 1) = (nearT N0 t k).set cn (closer (rd (nearT N0 t k) (cn : Int)) ((k : Int) + 1)) := by
              rw [nearT, show t.getD k 0 = (cn : Int) by simp [List.getD_eq_getElem?_getD, hxk], Int.toNat_natCast]
            have HNT := Aside0.mk hnt
            rw [hrd] at hx
            have y1 := HK5.out.nr cn cn256
            have fy := HK5.out.frozen (2 + cn)
            obtain ⟨q, hq⟩ : ∃ q, rd (nearT N0 t k) (cn : Int) = q := ⟨_, rfl⟩
            rw [hq] at y1 HNT
            have wk2 : IntKind.i64.wrap ((k : Int) + 1) = (k : Int) + 1 := IntWalk.i64_in _ (by omega)
            have c0 : (0 : Int) ≤ (cn : Int) := by omega
            have c1' : (cn : Int) < 256 := by omega
            have HK7 := HK5.out.drew
            have HX6 := Aside0.mk (Kd.R_set (Kd.R_drew HX5.out) HK7.2 ty32 (2 + cn) (.int .i64 (closer q ((k : Int) + 1))))
            have HV6 := Aside0.mk (Kd.R_set (Kd.R_drew HV5.out) HK7.2 ty5 (2 + cn) (.int .i64 (closer q ((k : Int) + 1))))
            have HK6 := Aside0.mk (HK7.setNear cn (closer q ((k : Int) + 1)))
            have HB6 := Aside0.mk (below_set (j := 2 + cn) (v := .int .i64 (closer q ((k : Int) + 1))) (below_drew HB5.out) (Nat.le_refl _))
            clear hC5 hxk hrd hxb hnt hq HX5 HV5 HK5 HB5 HK7
            go_upto_region 14 with (fail)
            refine wp_region_still_tail 14 (by kernel_rfl) (by kernel_rfl) ?_
            simp only [List.take_succ_cons, List.take_zero, List.drop_succ_cons, List.drop_zero]
            repeat still_step
            still_call (closer_c _ _ _)
            repeat still_step
            refine wpStill_nil ?_
            change wpList _ _ _ _ _ wr.drew
            have y2 : wr.drew.cell? ⟨w.heap.size, 2 + cn, none⟩ = some (.int .i64 q) := y1
            have fy2 : wr.drew.frozen? ⟨w.heap.size, 2 + cn, none⟩ = false := fy
            clear y1 fy hx
            obtain ⟨W2, hW2⟩ : ∃ W, wr.drew = W := ⟨_, rfl⟩
            rw [hW2] at HX6 HV6 HK6 HB6 y2 fy2 ⊢
            clear hW2
            go_wp2
            go_roundw
            case rel => exact ⟨k + 1, by go_num, by omega, HX6, HV6, ⟨by rw [HNT.out]; exact HK6.out⟩, HB6⟩
            case measure => simp [intOf]; omega
          · obtain rfl : k = t.length := by omega
            have k2 : ¬ ((t.length : Nat) : Int) < (t.length : Int) := by omega
            go_wp2
            go_roundw
            case rel => exact ⟨i + 1, by go_num, by omega, ⟨by rw [HT.out]; exact HX5.out⟩, ⟨by rw [HT.out, leastN_snoc, nearN_snoc, HLO.out, HN0.out]; exact HK5.out⟩, HB5⟩
            case measure => simp [intOf]; omega
    · obtain rfl : i = L.length := by omega
      have k1 : ¬ ((L.length : Nat) : Int) < (L.length : Int) := by omega
      rw [List.take_length] at HX HK
      obtain ⟨A5, c5, rfl, hc5, hC5⟩ := Kd.R_reads HX.out
      have tb : ∀ s ∈ TL L, Bytes s := fun s hs x hx => HBB.out _ (TL_mem.1 hs).2 x (List.mem_reverse.2 hx)
      have tl : ∀ s ∈ TL L, s.length ≤ 1000 := fun s hs => by
        have := H2.out _ (TL_mem.1 hs).2
        rwa [List.length_reverse] at this
      have ll := TL_len L
      have bl := build_at wr A5 c5 (TL L) hC5 tb (by omega) tl
      have BL := Aside0.mk bl
      have hlt0 : w.heap.size < wr.heap.size := blk_lt HK.out.2
      clear hC5 tb tl bl ll HX
      go_upto_region 17 with (fail)
      go_wp2_with (go_at_call 21; (refine BL.out.mono ?_); rintro e w1 ⟨b, rfl, ht, hb⟩; have HK1 := Aside0.mk (HK.out.below hb); have x1 := HK1.out.tr; have fz := HK1.out.frozen 0; have HT1 := Aside0.mk (ht.far (p := ⟨w.heap.size, 0, none⟩) hlt0 (.pointer (some ⟨b, 0, none⟩))); have HK2 := Aside0.mk (HK1.out.setTree (.pointer (some ⟨b, 0, none⟩))); have HB1 := Aside0.mk (below_set (j := 0) (v := .pointer (some ⟨b, 0, none⟩)) (below_step HB.out hb) (Nat.le_refl _)); clear ht hb)
      go_ret
      exact ⟨_, _, _, rfl, HK2.out, HT1.out, HB1.out⟩
end Go.Proofs.Ytifbcboefopioaa.Tri

/-! By hand: the methods End and Whole of a tree from the ends. No condition. -/
set_option linter.unusedVariables false
namespace Go.Proofs.Ytifbcboefopioaa.Tri
open Go.RowKit Go.Maps Go.Proofs.YtifbcboefopioaaW.PrintWords Go.Proofs.YtifbcboefopioaaW.PrintLast Go.Proofs.YtifbcboefopioaaW.PrintMore Go.Proofs.Ytifbcboefopioaa.Kit Go.Proofs.Ytifbcboefopioaa.All
attribute [local go_sem] max2_int min2_int max_two min_two max_three min_three max_four min_four

def wholeB (q : Int) : Bool := decide (0 ≤ q)
theorem wholeB_yes {q : Int} (h : 0 ≤ q) : wholeB q = true := decide_eq_true h
theorem wholeB_no {q : Int} (h : ¬ 0 ≤ q) : wholeB q = false := decide_eq_false h
theorem turn_nil (w : World) : Calls Try.prog 44 #[.slice none 0 0] w fun e w' => ∃ v, e = .returned v ∧ Kd.R (Kd.int .u8) 5 w' w.heap.size (fun _ => True) v [] ∧ Below w.heap.size w w' := by
  have hC : Kd.C (Kd.int .u8) w none 0 [] := ⟨rfl, by decide, fun h => absurd h (Nat.lt_irrefl 0)⟩
  exact turn_at none 0 [] w hC (Nat.le_refl _) (by decide)
section
variable {w : World} {g base b : Nat} {least : Int} {near : List Int} {P : List Txt} {wd : Txt → Int}
theorem end_at (hK : BackIs w g (.pointer (some ⟨b, 0, none⟩)) least near) (hG : Good P) (h : TreeAt w base b P wd) (hl : P.length ≤ 4611686018427387904) (i : Nat) (s : Txt) (hi : P[i]? = some s) (hsl : s.length ≤ 1099511627776) :
    Calls Try.prog 39 #[.pointer (some ⟨g, 0, none⟩), .int .i64 i] w fun e w' => ∃ v, e = .returned v ∧ Kd.R (Kd.int .u8) 5 w' w.heap.size (fun _ => True) v s.reverse ∧ Below w.heap.size w w' := by
  have x1 := hK.tr
  have PT := Aside0.mk (path_at hG h hl i s hi hsl)
  clear hK hG h hi
  go_enter Try.func39, Try.ntmps39
  go_wp2_with (first
    | (go_at_call 25; (refine PT.out.mono ?_); rintro e w1 ⟨v, rfl, ho, hb⟩; obtain ⟨A1, c1, rfl, hc1, hC1⟩ := Kd.R_reads ho; have HB1 := Aside0.mk hb; have TA := Aside0.mk (turn_at A1 c1 s w1 hC1 hc1 (by omega)); clear ho hb hc1 hC1)
    | (go_at_call 44; (with_reducible refine TA.out.mono ?_); rintro e w2 ⟨v, rfl, ho, hb⟩; have HO := Aside0.mk (Kd.R_lower ho (below_size HB1.out)); have HB2 := Aside0.mk (below_step HB1.out hb); clear ho hb))
  go_ret
  exact ⟨_, rfl, HO.out, HB2.out⟩
theorem end_no (hK : BackIs w g (.pointer (some ⟨b, 0, none⟩)) least near) (h : TreeAt w base b P wd) (n : Int) (h0 : n < 0 ∨ (P.length : Int) ≤ n) :
    Calls Try.prog 39 #[.pointer (some ⟨g, 0, none⟩), .int .i64 n] w fun e w' => ∃ A c, e = .returned (.slice A 0 c) ∧ Below w.heap.size w w' := by
  have x1 := hK.tr
  have PT := Aside0.mk (path_no h n h0)
  clear hK h h0
  go_enter Try.func39, Try.ntmps39
  go_wp2_with (first
    | (go_at_call 25; (refine PT.out.mono ?_); rintro e w1 ⟨rfl, hb⟩; have HB1 := Aside0.mk hb; clear hb)
    | (go_at_call 44; (with_reducible refine (turn_nil _).mono ?_); rintro e w2 ⟨v, rfl, ho, hb⟩; obtain ⟨A2, c2, rfl, _, _⟩ := Kd.R_reads ho; have HB2 := Aside0.mk (below_step HB1.out hb); clear ho hb))
  go_ret
  exact ⟨_, _, rfl, HB2.out⟩
theorem whole_at (hK : BackIs w g (.pointer (some ⟨b, 0, none⟩)) least near) (h : TreeAt w base b P wd) (i : Nat) (s : Txt) (hi : P[i]? = some s) :
    Calls Try.prog 41 #[.pointer (some ⟨g, 0, none⟩), .int .i64 i] w fun e w' => e = .returned (.bool (wholeB (wd s))) ∧ w' = w := by
  have x1 := hK.tr
  have WD := Aside0.mk (word_at h i s hi)
  clear hK h hi
  by_cases c : 0 ≤ wd s
  · rw [wholeB_yes c]
    obtain ⟨q, hq⟩ : ∃ q, wd s = q := ⟨_, rfl⟩
    rw [hq] at WD c
    clear hq
    have d1 : decide (q ≥ 0) = true := decide_eq_true c
    go_enter Try.func41, Try.ntmps41
    go_wp2_with (go_at_call 28; (refine WD.out.mono ?_); rintro e w1 ⟨rfl, hw⟩; subst hw)
    go_ret
    exact ⟨rfl, rfl⟩
  · rw [wholeB_no c]
    obtain ⟨q, hq⟩ : ∃ q, wd s = q := ⟨_, rfl⟩
    rw [hq] at WD c
    clear hq
    have d1 : decide (q ≥ 0) = false := decide_eq_false c
    go_enter Try.func41, Try.ntmps41
    go_wp2_with (go_at_call 28; (refine WD.out.mono ?_); rintro e w1 ⟨rfl, hw⟩; subst hw)
    go_ret
    exact ⟨rfl, rfl⟩
theorem whole_no (hK : BackIs w g (.pointer (some ⟨b, 0, none⟩)) least near) (h : TreeAt w base b P wd) (n : Int) (h0 : n < 0 ∨ (P.length : Int) ≤ n) :
    Calls Try.prog 41 #[.pointer (some ⟨g, 0, none⟩), .int .i64 n] w fun e w' => e = .returned (.bool false) ∧ w' = w := by
  have x1 := hK.tr
  have WD := Aside0.mk (word_no h n h0)
  clear hK h h0
  go_enter Try.func41, Try.ntmps41
  go_wp2_with (go_at_call 28; (refine WD.out.mono ?_); rintro e w1 ⟨rfl, hw⟩; subst hw)
  go_ret
  exact ⟨rfl, rfl⟩
theorem whole_nil (n : Int) (w : World) : Calls Try.prog 41 #[.pointer none, .int .i64 n] w fun e w' => e = .returned (.bool false) ∧ w' = w := by
  go_enter Try.func41, Try.ntmps41
  go_wp2
  go_ret
  exact ⟨rfl, rfl⟩
theorem end_nil (n : Int) (w : World) : Calls Try.prog 39 #[.pointer none, .int .i64 n] w fun e w' => e = .returned (.slice none 0 0) ∧ w' = w := by
  go_enter Try.func39, Try.ntmps39
  go_wp2
  go_ret
  exact ⟨rfl, rfl⟩
theorem near_nil (c : Int) (w : World) : Calls Try.prog 42 #[.pointer none, .int .u8 c] w fun e w' => e = .returned (.int .i64 0) ∧ w' = w := by
  go_enter Try.func42, Try.ntmps42
  go_wp2
  go_ret
  exact ⟨rfl, rfl⟩
end
end Go.Proofs.Ytifbcboefopioaa.Tri

/-! By hand: the example of layer 14 (awake): it holds. No condition. -/
set_option linter.unusedVariables false
namespace Go.Proofs.Ytifbcboefopioaa.Tri
open Go.RowKit Go.Maps Go.Proofs.YtifbcboefopioaaW.PrintWords Go.Proofs.YtifbcboefopioaaW.PrintLast Go.Proofs.YtifbcboefopioaaW.PrintMore Go.Proofs.Ytifbcboefopioaa.Kit Go.Proofs.Ytifbcboefopioaa.All
attribute [local go_sem] max2_int min2_int max_two min_two max_three min_three max_four min_four

theorem stays_backAt (g base b : Nat) (least : Int) (near : List Int) (P : List Txt) (wd : Txt → Int) : Stays (fun w => BackIs w g (.pointer (some ⟨b, 0, none⟩)) least near ∧ TreeAt w base b P wd) := fun w w' h hb => ⟨h.1.below hb, h.2.below hb⟩
/-- Two constant texts in a row. -/
theorem two_rows (w : World) (x y : Txt) (hx : x.length ≤ 1000) (hy : y.length ≤ 1000) (fx fy : Nat × Nat) (n : Nat) (hn : w.heap.size = n) : Kd.C (Kd.slice 5 (Kd.int .u8)) (((w.alloc (.cells (nums .u8 x).toArray 5 fx)).alloc (.cells (nums .u8 y).toArray 5 fy)).alloc (.cells #[.slice (some ⟨n, 0, none⟩) x.length x.length, .slice (some ⟨n + 1, 0, none⟩) y.length y.length] 32)) (some ⟨n + 1 + 1, 0, none⟩) 2 [x, y] := by
  subst hn
  have e1 : (w.alloc (.cells (nums .u8 x).toArray 5 fx)).heap.size = w.heap.size + 1 := by simp
  have e2 : ((w.alloc (.cells (nums .u8 x).toArray 5 fx)).alloc (.cells (nums .u8 y).toArray 5 fy)).heap.size = w.heap.size + 1 + 1 := by simp
  have h1 := lit_frozen w x (nums .u8 x) rfl hx fx
  have h2 := lit_frozen (w.alloc (.cells (nums .u8 x).toArray 5 fx)) y (nums .u8 y) rfl hy fy
  rw [e1] at h2
  have := rows_new ((w.alloc (.cells (nums .u8 x).toArray 5 fx)).alloc (.cells (nums .u8 y).toArray 5 fy)) [.slice (some ⟨w.heap.size, 0, none⟩) x.length x.length, .slice (some ⟨w.heap.size + 1, 0, none⟩) y.length y.length] [x, y] rfl (by simp) (by
    intro j z hj
    match j, hj with
    | 0, hj => cases hj; exact ⟨_, _, rfl, Nat.le_refl _, Kd.C_alloc h1 _⟩
    | 1, hj => cases hj; exact ⟨_, _, rfl, Nat.le_refl _, h2⟩
    | j + 2, hj => simp at hj) 32
  rw [e2] at this
  exact this
def exQ : List Txt := [[], [98], [98, 97], [98, 97, 99]]
def exW : Txt → Int := place [[98, 97, 99], [98]]
def exN : List Int := nearN [[98, 97, 99], [98]]
theorem exQ_good : Good exQ := by
  have := pathsL_good [[98, 97, 99], [98]]
  exact this
theorem bbuild2 (w : World) (c : Nat) {A : Option Addr} (hr : Kd.C (Kd.slice 5 (Kd.int .u8)) w A 2 [[99, 97, 98], [98]]) : Calls Try.prog 35 #[.slice A 2 c] w fun e w' => ∃ g base b, e = .returned (.pointer (some ⟨g, 0, none⟩)) ∧ (BackIs w' g (.pointer (some ⟨b, 0, none⟩)) 1 exN ∧ TreeAt w' base b exQ exW) ∧ Below w.heap.size w w' :=
  (bbuild_at w A c [[99, 97, 98], [98]] hr (by
    intro s hs x hx
    simp at hs
    rcases hs with rfl | rfl <;> simp at hx <;> omega) (by decide) (by decide)).mono fun e w' ⟨g, base, b, he, hk, ht, hb⟩ => ⟨g, base, b, he, ⟨hk, ht⟩, hb⟩
theorem exN97 : rd exN 97 = 2 := by decide +kernel
theorem exN120 : rd exN 120 = 0 := by decide +kernel
set_option maxRecDepth 100000 in
set_option maxHeartbeats 4000000 in
theorem awake14_at (w : World) : Calls Try.prog 33 #[] w fun e w' => e = .returned (.bool true) ∧ Below w.heap.size w w' := by
  have kc := conv_lit
  have TR : Aside0 (Kd.C (Kd.slice 5 (Kd.int .u8)) (((w.alloc (.cells #[.int .u8 99, .int .u8 97, .int .u8 98] 5 (3, 4))).alloc (.cells #[.int .u8 98] 5 (1, 2))).alloc (.cells #[.slice (some ⟨w.heap.size, 0, none⟩) 3 3, .slice (some ⟨w.heap.size + 1, 0, none⟩) 1 1] 32)) (some ⟨w.heap.size + 1 + 1, 0, none⟩) 2 [[99, 97, 98], [98]]) := ⟨two_rows w [99, 97, 98] [98] (by decide) (by decide) (3, 4) (1, 2) _ rfl⟩
  have bw := fun (w1 : World) (h : Below (w.heap.size + 1 + 1 + 1) (((w.alloc (.cells #[.int .u8 99, .int .u8 97, .int .u8 98] 5 (3, 4))).alloc (.cells #[.int .u8 98] 5 (1, 2))).alloc (.cells #[.slice (some ⟨w.heap.size, 0, none⟩) 3 3, .slice (some ⟨w.heap.size + 1, 0, none⟩) 1 1] 32)) w1) => (below_alloc (below_alloc (below_alloc (Below.refl w.heap.size w) (.cells #[.int .u8 99, .int .u8 97, .int .u8 98] 5 (3, 4))) (.cells #[.int .u8 98] 5 (1, 2))) (.cells #[.slice (some ⟨w.heap.size, 0, none⟩) 3 3, .slice (some ⟨w.heap.size + 1, 0, none⟩) 1 1] 32)).trans (h.mono (by omega))
  have BW := Aside0.mk bw
  clear bw
  go_enter Try.func33, Try.ntmps33
  go_upto_region 2 with (go_at_call 35; (refine (bbuild2 _ _ TR.out).mono ?_); rintro e w1 ⟨g, base, b, rfl, ht, hb⟩; have HT := Aside0.mk ht; have HB := Aside0.mk (BW.out _ (by simpa using hb)); clear ht hb)
  obtain ⟨G, SG, G1, GG⟩ := stays_pack ((stays_below w).and (stays_backAt g base b 1 exN exQ exW)) ⟨HB.out, HT.out⟩
  have X1 := HT.out.1.tr
  clear HT HB TR BW
  have WH1 := Aside0.mk (fun (w1 : World) (h : G w1) => whole_at (GG.out w1 h).2.1 (GG.out w1 h).2.2 1 [98] rfl)
  have WH2 := Aside0.mk (fun (w1 : World) (h : G w1) => whole_at (GG.out w1 h).2.1 (GG.out w1 h).2.2 2 [98, 97] rfl)
  have WH3 := Aside0.mk (fun (w1 : World) (h : G w1) => whole_at (GG.out w1 h).2.1 (GG.out w1 h).2.2 3 [98, 97, 99] rfl)
  have NR1 := Aside0.mk (fun (w1 : World) (h : G w1) => near_at (GG.out w1 h).2.1 97 (by decide))
  have NR2 := Aside0.mk (fun (w1 : World) (h : G w1) => near_at (GG.out w1 h).2.1 120 (by decide))
  have LS := Aside0.mk (fun (w1 : World) (h : G w1) => least_at (GG.out w1 h).2.1)
  have ND := Aside0.mk (fun (w1 : World) (h : G w1) => nodes_at (GG.out w1 h).2.2)
  have EN := Aside0.mk (fun (w1 : World) (h : G w1) => end_at (GG.out w1 h).2.1 exQ_good (GG.out w1 h).2.2 (by decide) 3 [98, 97, 99] rfl (by decide))
  simp only [show wholeB (exW [98]) = true by decide, show wholeB (exW [98, 97]) = false by decide, show wholeB (exW [98, 97, 99]) = true by decide, show ((97 : Nat) : Int) = 97 from rfl, show ((120 : Nat) : Int) = 120 from rfl, show ((1 : Nat) : Int) = 1 from rfl, show ((2 : Nat) : Int) = 2 from rfl, show ((3 : Nat) : Int) = 3 from rfl, exN97, exN120, show exQ.length = 4 from rfl, show ((4 : Nat) : Int) = 4 from rfl, show ([98, 97, 99] : Txt).reverse = [99, 97, 98] from rfl] at WH1 WH2 WH3 NR1 NR2 ND EN
  go_wp2_with (first
    | (go_at_call 23; (with_reducible refine (ND.out _ G1.out).mono ?_); rintro e w' ⟨rfl, hw⟩; subst hw)
    | (go_at_call 39; (with_reducible refine (EN.out _ G1.out).mono ?_); rintro e w2 ⟨v, rfl, ho, hb⟩; obtain ⟨A2, c2, rfl, hv2⟩ := row_text ho; have G2 := Aside0.mk (SG.out _ _ G1.out hb); change (convert 32 9 (.slice A2 3 c2)).run Try.prog w2 = .ok (.string ⟨#[99, 97, 98]⟩) w2 at hv2; clear ho hb)
    | (go_at_call 41; (with_reducible refine (WH1.out _ G2.out).mono ?_); rintro e w' ⟨rfl, hw⟩; subst hw)
    | (go_at_call 41; (with_reducible refine (WH2.out _ G2.out).mono ?_); rintro e w' ⟨rfl, hw⟩; subst hw)
    | (go_at_call 41; (with_reducible refine (WH3.out _ G2.out).mono ?_); rintro e w' ⟨rfl, hw⟩; subst hw)
    | (go_at_call 37; (with_reducible refine (LS.out _ G2.out).mono ?_); rintro e w' ⟨rfl, hw⟩; subst hw)
    | (go_at_call 42; (with_reducible refine (NR1.out _ G2.out).mono ?_); rintro e w' ⟨rfl, hw⟩; subst hw)
    | (go_at_call 42; (with_reducible refine (NR2.out _ G2.out).mono ?_); rintro e w' ⟨rfl, hw⟩; subst hw)
    | (go_at_call 44; (refine (turn_at _ _ [97, 98, 99] _ (lit_frozen _ [97, 98, 99] [.int .u8 97, .int .u8 98, .int .u8 99] rfl (by decide) _) (Nat.le_refl _) (by decide)).mono ?_); rintro e w3 ⟨v, rfl, ho, hb⟩; obtain ⟨A3, c3, rfl, hv3⟩ := row_text ho; have G3 := Aside0.mk (below_step (below_alloc (GG.out _ G2.out).1 _) hb); change (convert 32 9 (.slice A3 3 c3)).run Try.prog w3 = .ok (.string ⟨#[99, 98, 97]⟩) w3 at hv3; clear ho hb))
  go_ret
  exact ⟨rfl, G3.out⟩
end Go.Proofs.Ytifbcboefopioaa.Tri

/-! Plain: the references of layer 14: turned texts, the least length, the nearest places. No condition but sizes. -/
set_option linter.unusedVariables false
namespace Go.Proofs.Ytifbcboefopioaa.Tri
open Go.RowKit Go.Proofs.YtifbcboefopioaaW.PrintWords Go.Proofs.YtifbcboefopioaaW.PrintLast Go.Proofs.YtifbcboefopioaaW.PrintMore Go.Proofs.Ytifbcboefopioaa.Kit Go.Proofs.Ytifbcboefopioaa.All

theorem Bytes.rev {s : Txt} (h : Bytes s) : Bytes s.reverse := fun x hx => h x (List.mem_reverse.1 hx)
theorem turn14_runs (s : Txt) (hl : s.length ≤ 1099511627776) : ∀ (j : Nat), j ≤ s.length → Ev (fun k => seineref14_Turn.l0 k (strOfNums s) (strOfNums (s.drop j).reverse) ((j : Int) - 1)) (strOfNums s.reverse)
  | 0, _ => by
    refine Ev.step (fun k => by rw [seineref14_Turn.l0]) ?_
    exact Ev.neg (by omega) (Ev.ret (by rw [List.drop_zero]))
  | j + 1, h => by
    have nx := turn14_runs s hl j (by omega)
    refine Ev.step (fun k => by rw [seineref14_Turn.l0]) ?_
    rw [show ((j + 1 : Nat) : Int) - 1 = (j : Int) by omega, wrap_id (by omega) (by omega), wrap_id (x := (j : Int) - 1) (by omega) (by omega), show (j : Int) + 1 = ((j + 1 : Nat) : Int) by omega]
    refine Ev.pos (by omega) (Ev.pos (by omega) (Ev.pos (by omega) (Ev.pos (by rw [size_str]; omega) ?_)))
    rw [Int.toNat_natCast, Int.toNat_natCast, extract_str]
    have e : (s.take (j + 1)).drop j = [s[j]] := by
      rw [List.take_succ_eq_append_getElem (by omega), List.drop_append_of_le_length (by rw [List.length_take]; omega), List.drop_of_length_le (by rw [List.length_take]; omega)]
      rfl
    rw [e]
    refine Ev.pos (by rw [size_str, size_str, List.length_reverse, List.length_drop, List.length_singleton]; omega) ?_
    rw [append_str]
    rw [List.drop_eq_getElem_cons (show j < s.length by omega), List.reverse_cons] at nx
    exact nx
theorem turn14_ev (s : Txt) (hl : s.length ≤ 1099511627776) : Ev (fun k => seineref14_Turn.f k (strOfNums s)) (strOfNums s.reverse) := by
  have h := turn14_runs s hl s.length (Nat.le_refl _)
  rw [List.drop_length, List.reverse_nil] at h
  refine Ev.congr (fun k => ?_) h
  rw [seineref14_Turn.f, size_str, wrap_id (by omega) (by omega)]
  rfl
theorem turned_runs (L : List Txt) (hl : L.length ≤ 1000) (h2 : ∀ s ∈ L, s.length ≤ 1000) : ∀ (d i : Nat), i + d = L.length → Ev (fun k => seineref14_Turned.l0 k (L.map strOfNums) ((TL (L.take i)).map strOfNums) (i : Int)) ((TL L).map strOfNums)
  | 0, i, h => by
    refine Ev.step (fun k => by rw [seineref14_Turned.l0]) ?_
    refine Ev.neg (by rw [List.length_map]; omega) (Ev.ret ?_)
    rw [List.take_of_length_le (by omega)]
  | d + 1, i, h => by
    have hi : i < L.length := by omega
    have hx : L[i]? = some L[i] := List.getElem?_eq_getElem hi
    have hm := List.getElem_mem hi
    have nx := turned_runs L hl h2 d (i + 1) (by omega)
    refine Ev.step (fun k => by rw [seineref14_Turned.l0]) ?_
    refine Ev.pos (by rw [List.length_map]; omega) (Ev.pos (by omega) ?_)
    rw [rd_map L hx, wrap_id (by omega) (by omega), show (i : Int) + 1 = ((i + 1 : Nat) : Int) by omega]
    rw [List.take_succ_eq_append_getElem hi] at nx
    by_cases h0 : L[i] = []
    · refine Ev.pos ((toList_str_nil _).2 h0) ?_
      rw [h0, TL_skip] at nx
      exact nx
    · refine Ev.neg (fun e => h0 ((toList_str_nil _).1 e)) ?_
      have h3 := h2 _ hm
      refine Ev.bind (turn14_ev _ (by omega)) ?_
      have h4 := TL_len (L.take i)
      rw [List.length_take] at h4
      refine Ev.pos (by rw [List.length_map]; omega) ?_
      rw [TL_snoc _ h0, List.map_append] at nx
      exact nx
theorem turned_two (L : List Txt) (hl : L.length ≤ 1000) (h2 : ∀ s ∈ L, s.length ≤ 1000) : ∃ k, seineref14_Turned.f k (L.map strOfNums) = some ((TL L).map strOfNums) := by
  obtain ⟨K, hK⟩ := turned_runs L hl h2 L.length 0 (by omega)
  exact ⟨K, hK K (Nat.le_refl _)⟩
theorem turn14_two (s : Txt) (hl : s.length ≤ 1099511627776) : ∃ k, seineref14_Turn.f k (strOfNums s) = some (strOfNums s.reverse) := by
  obtain ⟨K, hK⟩ := turn14_ev s hl
  exact ⟨K, hK K (Nat.le_refl _)⟩

/-! ### the least length -/
theorem closer_le (a : Int) {n : Int} (ha : 0 ≤ a) (hn : 0 < n) : 0 < closer a n ∧ closer a n ≤ n := by
  unfold closer
  split
  · omega
  · rw [Int.min_def]
    split <;> omega
theorem leastN_nonneg : ∀ (T : List Txt), 0 ≤ leastN T := by
  intro T
  unfold leastN
  have key : ∀ (T : List Txt) (a : Int), 0 ≤ a → 0 ≤ T.foldl (fun a t => closer a t.length) a := by
    intro T
    induction T with
    | nil => intro a h; exact h
    | cons t T ih =>
      intro a h
      refine ih _ ?_
      show 0 ≤ closer a (t.length : Int)
      unfold closer
      split
      · omega
      · rw [Int.min_def]
        split <;> omega
  exact key T 0 (by omega)
theorem leastN_spec (T : List Txt) (hne : ∀ t ∈ T, t ≠ []) : ∀ n, n ≤ T.length → (0 < n → 0 < leastN (T.take n) ∧ (∃ t ∈ T.take n, leastN (T.take n) = t.length) ∧ ∀ t ∈ T.take n, leastN (T.take n) ≤ t.length)
  | 0, _ => fun h => absurd h (by omega)
  | n + 1, h => fun _ => by
    have hi : n < T.length := by omega
    have hm := List.getElem_mem hi
    have hp : 0 < T[n].length := List.length_pos_iff.2 (hne _ hm)
    rw [List.take_succ_eq_append_getElem hi, leastN_snoc]
    rcases Nat.eq_zero_or_pos n with rfl | h0
    · rw [List.take_zero]
      have e : closer (leastN []) (T[0].length : Int) = (T[0].length : Int) := rfl
      rw [e]
      refine ⟨by omega, ⟨T[0], by simp, rfl⟩, fun t ht => ?_⟩
      simp at ht
      subst ht
      omega
    · obtain ⟨h1, ⟨t0, ht0, e0⟩, h2⟩ := leastN_spec T hne n (by omega) h0
      have e : closer (leastN (T.take n)) (T[n].length : Int) = if leastN (T.take n) ≤ (T[n].length : Int) then leastN (T.take n) else (T[n].length : Int) := by
        unfold closer
        rw [if_neg (by omega), Int.min_def]
      rw [e]
      split
      · refine ⟨h1, ⟨t0, List.mem_append_left _ ht0, e0⟩, fun t ht => ?_⟩
        rcases List.mem_append.1 ht with h | h
        · exact h2 t h
        · simp at h
          subst h
          assumption
      · refine ⟨by omega, ⟨T[n], List.mem_append.2 (.inr (List.mem_singleton.2 rfl)), rfl⟩, fun t ht => ?_⟩
        rcases List.mem_append.1 ht with h | h
        · have := h2 t h
          omega
        · simp at h
          subst h
          omega
theorem leastN_pos {T : List Txt} (hne : ∀ t ∈ T, t ≠ []) (h0 : T ≠ []) : 0 < leastN T ∧ (∃ t ∈ T, leastN T = t.length) ∧ ∀ t ∈ T, leastN T ≤ t.length := by
  have := leastN_spec T hne T.length (Nat.le_refl _) (List.length_pos_iff.2 h0)
  rwa [List.take_length] at this
theorem TL_ne (L : List Txt) : ∀ t ∈ TL L, t ≠ [] := fun t ht => (TL_mem.1 ht).1
theorem least_runs (T : List Txt) (hl : T.length ≤ 1000) (hne : ∀ t ∈ T, t ≠ []) (h2 : ∀ s ∈ T, s.length ≤ 1000) : ∀ (d i : Nat), i + d = T.length → Ev (fun k => seineref14_Least.l0 k (T.map strOfNums) (leastN (T.take i)) (i : Int)) (leastN T)
  | 0, i, h => by
    refine Ev.step (fun k => by rw [seineref14_Least.l0]) ?_
    refine Ev.neg (by rw [List.length_map]; omega) (Ev.ret ?_)
    rw [List.take_of_length_le (by omega)]
  | d + 1, i, h => by
    have hi : i < T.length := by omega
    have hx : T[i]? = some T[i] := List.getElem?_eq_getElem hi
    have hm := List.getElem_mem hi
    have nx := least_runs T hl hne h2 d (i + 1) (by omega)
    refine Ev.step (fun k => by rw [seineref14_Least.l0]) ?_
    refine Ev.pos (by rw [List.length_map]; omega) ?_
    rw [rd_map T hx, size_str, wrap_id (by omega) (by omega), show (i : Int) + 1 = ((i + 1 : Nat) : Int) by omega]
    rw [List.take_succ_eq_append_getElem hi, leastN_snoc] at nx
    by_cases h0 : i = 0
    · subst h0
      refine Ev.pos rfl (Ev.pos (by omega) ?_)
      exact nx
    · refine Ev.neg (by omega) (Ev.pos (by omega) ?_)
      obtain ⟨h3, _, _⟩ := leastN_spec T hne i (by omega) (by omega)
      unfold closer at nx
      rw [if_neg (by omega), Int.min_def] at nx
      by_cases c : (T[i].length : Int) < leastN (T.take i)
      · rw [if_neg (by omega)] at nx
        exact Ev.pos c nx
      · rw [if_pos (by omega)] at nx
        exact Ev.neg c nx
theorem least_ev (T : List Txt) (hl : T.length ≤ 1000) (hne : ∀ t ∈ T, t ≠ []) (h2 : ∀ s ∈ T, s.length ≤ 1000) : Ev (fun k => seineref14_Least.f k (T.map strOfNums)) (leastN T) := least_runs T hl hne h2 T.length 0 (by omega)
theorem least_two (T : List Txt) (hl : T.length ≤ 1000) (hne : ∀ t ∈ T, t ≠ []) (h2 : ∀ s ∈ T, s.length ≤ 1000) : ∃ k, seineref14_Least.f k (T.map strOfNums) = some (leastN T) := by
  obtain ⟨K, hK⟩ := least_ev T hl hne h2
  exact ⟨K, hK K (Nat.le_refl _)⟩

/-! ### the nearest places -/
theorem rd_set2 (l : List Int) (i : Nat) (k : Int) (v : Int) (h : i < l.length) (hk : 0 ≤ k) : rd (l.set i v) k = if (i : Int) = k then v else rd l k := by
  obtain ⟨m, rfl⟩ : ∃ m : Nat, k = (m : Int) := ⟨k.toNat, by omega⟩
  unfold rd
  simp only [Int.toNat_natCast, List.getD_eq_getElem?_getD, List.getElem?_set]
  by_cases e : i = m
  · subst e
    simp [h]
  · rw [if_neg e, if_neg (by omega)]
theorem nearT_step {N : List Int} (hN : N.length = 256) {t : Txt} (hB : Bytes t) (k : Nat) (hk : k < t.length) (c : Int) (c0 : 0 ≤ c) : rd (nearT N t (k + 1)) c = if rd t (k : Int) = c then closer (rd (nearT N t k) c) ((k : Int) + 1) else rd (nearT N t k) c := by
  have hb := hB t[k] (List.getElem_mem hk)
  have e1 : t.getD k 0 = t[k] := by simp [List.getD_eq_getElem?_getD, hk]
  have e2 : rd t (k : Int) = t[k] := by rw [rd_nat, e1]
  rw [nearT, e1, e2, rd_set2 _ _ _ _ (by rw [nearT_len, hN]; omega) c0, show ((t[k].toNat : Nat) : Int) = t[k] by omega]
  split
  · rename_i h
    rw [h]
  · rfl
theorem near_in (T : List Txt) (hl : T.length ≤ 1000) (c : Int) (c0 : 0 ≤ c) (i : Nat) (t : Txt) (hi : T[i]? = some t) (hB : Bytes t) (h2 : t.length ≤ 1000) (N : List Int) (hN : N.length = 256) (r : Int)
    (hx : Ev (fun k => seineref14_Near.l0 k (T.map strOfNums) c (rd (nearT N t t.length) c) ((i + 1 : Nat) : Int)) r) :
    ∀ (d n : Nat), n + d = t.length → Ev (fun k => seineref14_Near.l1 k (T.map strOfNums) c (rd (nearT N t n) c) (i : Int) (n : Int)) r
  | 0, n, h => by
    have hil := (List.getElem?_eq_some_iff.1 hi).1
    refine Ev.step (fun k => by rw [seineref14_Near.l1]) ?_
    refine Ev.pos (by omega) (Ev.pos (by rw [List.length_map]; omega) ?_)
    rw [rd_map T hi, size_str]
    refine Ev.neg (by omega) ?_
    rw [wrap_id (by omega) (by omega), show (i : Int) + 1 = ((i + 1 : Nat) : Int) by omega]
    obtain rfl : n = t.length := by omega
    exact hx
  | d + 1, n, h => by
    have hil := (List.getElem?_eq_some_iff.1 hi).1
    have hn : n < t.length := by omega
    have nx := near_in T hl c c0 i t hi hB h2 N hN r hx d (n + 1) (by omega)
    rw [nearT_step hN hB n hn c c0] at nx
    refine Ev.step (fun k => by rw [seineref14_Near.l1]) ?_
    refine Ev.pos (by omega) (Ev.pos (by rw [List.length_map]; omega) ?_)
    rw [rd_map T hi, size_str, bt_str hB, wrap_id (by omega) (by omega)]
    refine Ev.pos (by omega) (Ev.pos (by omega) ?_)
    rw [show ((n + 1 : Nat) : Int) = (n : Int) + 1 by omega] at nx
    by_cases e : rd t (n : Int) = c
    · rw [if_pos e] at nx
      refine Ev.pos e ?_
      unfold closer at nx
      by_cases h0 : rd (nearT N t n) c = 0
      · rw [if_pos h0] at nx
        exact Ev.pos h0 nx
      · rw [if_neg h0, Int.min_def] at nx
        refine Ev.neg h0 ?_
        by_cases hlt : (n : Int) + 1 < rd (nearT N t n) c
        · rw [if_neg (by omega)] at nx
          exact Ev.pos hlt nx
        · rw [if_pos (by omega)] at nx
          exact Ev.neg hlt nx
    · rw [if_neg e] at nx
      exact Ev.neg e nx
theorem nearN_len (T : List Txt) : (nearN T).length = 256 := by
  unfold nearN
  have key : ∀ (T : List Txt) (N : List Int), N.length = 256 → (T.foldl (fun N t => nearT N t t.length) N).length = 256 := by
    intro T
    induction T with
    | nil => intro N h; exact h
    | cons t T ih => intro N h; exact ih _ (by rw [nearT_len, h])
  exact key T _ (List.length_replicate ..)
theorem near_out (T : List Txt) (hl : T.length ≤ 1000) (hB : ∀ t ∈ T, Bytes t) (h2 : ∀ t ∈ T, t.length ≤ 1000) (c : Int) (c0 : 0 ≤ c) : ∀ (d i : Nat), i + d = T.length → Ev (fun k => seineref14_Near.l0 k (T.map strOfNums) c (rd (nearN (T.take i)) c) (i : Int)) (rd (nearN T) c)
  | 0, i, h => by
    refine Ev.step (fun k => by rw [seineref14_Near.l0]) ?_
    refine Ev.neg (by rw [List.length_map]; omega) (Ev.ret ?_)
    rw [List.take_of_length_le (by omega)]
  | d + 1, i, h => by
    have hi : i < T.length := by omega
    have hx : T[i]? = some T[i] := List.getElem?_eq_getElem hi
    have hm := List.getElem_mem hi
    have nx := near_out T hl hB h2 c c0 d (i + 1) (by omega)
    rw [List.take_succ_eq_append_getElem hi, nearN_snoc] at nx
    refine Ev.step (fun k => by rw [seineref14_Near.l0]) ?_
    refine Ev.pos (by rw [List.length_map]; omega) ?_
    exact near_in T hl c c0 i _ hx (hB _ hm) (h2 _ hm) _ (nearN_len _) _ nx T[i].length 0 (by omega)
theorem near_ev (T : List Txt) (hl : T.length ≤ 1000) (hB : ∀ t ∈ T, Bytes t) (h2 : ∀ t ∈ T, t.length ≤ 1000) (c : Int) (c0 : 0 ≤ c) (c1 : c ≤ 255) : Ev (fun k => seineref14_Near.f k (T.map strOfNums) c) (rd (nearN T) c) := by
  have := near_out T hl hB h2 c c0 T.length 0 (by omega)
  have e : rd (nearN (T.take 0)) c = 0 := by
    rw [List.take_zero]
    show rd near0 c = 0
    unfold rd near0
    rw [List.getD_eq_getElem?_getD, List.getElem?_replicate]
    split <;> rfl
  rw [e] at this
  exact this
theorem near_two (T : List Txt) (hl : T.length ≤ 1000) (hB : ∀ t ∈ T, Bytes t) (h2 : ∀ t ∈ T, t.length ≤ 1000) (c : Int) (c0 : 0 ≤ c) (c1 : c ≤ 255) : ∃ k, seineref14_Near.f k (T.map strOfNums) c = some (rd (nearN T) c) := by
  obtain ⟨K, hK⟩ := near_ev T hl hB h2 c c0 c1
  exact ⟨K, hK K (Nat.le_refl _)⟩
end Go.Proofs.Ytifbcboefopioaa.Tri

/-! By hand: what the laws of layer 14 call. No condition. -/
set_option linter.unusedVariables false
namespace Go.Proofs.Ytifbcboefopioaa.Tri
open Go.RowKit Go.Maps Go.Proofs.YtifbcboefopioaaW.PrintWords Go.Proofs.YtifbcboefopioaaW.PrintLast Go.Proofs.YtifbcboefopioaaW.PrintMore Go.Proofs.Ytifbcboefopioaa.Kit Go.Proofs.Ytifbcboefopioaa.All
attribute [local go_sem] max2_int min2_int max_two min_two max_three min_three max_four min_four

theorem stays_is (g : Nat) (tp : Value) (least : Int) (near : List Int) : Stays (fun w => BackIs w g tp least near) := fun w w' h hb => h.below hb
theorem texts14_at (w : World) (A : Option Addr) (c : Nat) (L : List Txt) (k : Nat) (r : List ByteArray) (b : Bool) (hr : Kd.C (Kd.slice 5 (Kd.int .u8)) w A L.length L) (hc : L.length ≤ c) (h : seinelaw14_texts.f k L = some (r, b)) :
    Calls Try.prog 34 #[.slice A L.length c] w fun e w' => ∃ A1 c1, e = .returned (.tuple #[.slice A1 r.length c1, .bool b]) ∧ r.length ≤ c1 ∧ Kd.C Kd.string w' A1 r.length r ∧ Below w.heap.size w w' :=
  (seinelaw14_texts.calls k A c L r b w hr hc h).mono fun e w' ⟨v, he, ho, hb⟩ => by
    obtain ⟨A1, c1, rfl, hl, hC⟩ := Kd.R_reads ho
    exact ⟨A1, c1, he, hl, hC, hb⟩
theorem texts14_ok (w : World) (A : Option Addr) (c : Nat) (L : List Txt) (k : Nat) (hr : Kd.C (Kd.slice 5 (Kd.int .u8)) w A L.length L) (hc : L.length ≤ c) (h : seinelaw14_texts.f k L = some (L.map strOfNums, true)) :
    Calls Try.prog 34 #[.slice A L.length c] w fun e w' => ∃ A1 c1, e = .returned (.tuple #[.slice A1 L.length c1, .bool true]) ∧ L.length ≤ c1 ∧ Kd.C Kd.string w' A1 L.length (L.map strOfNums) ∧ Below w.heap.size w w' := by
  have := texts14_at w A c L k _ true hr hc h
  rwa [List.length_map] at this
theorem bbuild_to (w : World) (A : Option Addr) (c : Nat) (L T P : List Txt) (hT : T = TL L) (hP : P = pathsL T) (hr : Kd.C (Kd.slice 5 (Kd.int .u8)) w A L.length L) (hB : ∀ s ∈ L, Bytes s) (h1 : L.length ≤ 1000) (h2 : ∀ s ∈ L, s.length ≤ 1000) :
    Calls Try.prog 35 #[.slice A L.length c] w fun e w' => ∃ g base b, e = .returned (.pointer (some ⟨g, 0, none⟩)) ∧ BackIs w' g (.pointer (some ⟨b, 0, none⟩)) (leastN T) (nearN T) ∧ TreeAt w' base b P (place T) ∧ Below w.heap.size w w' := by
  subst hP
  subst hT
  exact bbuild_at w A c L hr hB h1 h2
theorem turned_at (w : World) (A : Option Addr) (c : Nat) (L T : List Txt) (hT : T = TL L) (hl : L.length ≤ 1000) (h2 : ∀ s ∈ L, s.length ≤ 1000) (hr : Kd.C Kd.string w A L.length (L.map strOfNums)) (hc : L.length ≤ c) :
    Calls Try.prog 36 #[.slice A L.length c] w fun e w' => ∃ A1 c1, e = .returned (.slice A1 T.length c1) ∧ T.length ≤ c1 ∧ Kd.C Kd.string w' A1 T.length (T.map strOfNums) ∧ Below w.heap.size w w' := by
  subst hT
  obtain ⟨k, hk⟩ := turned_two L hl h2
  have hm : (L.map strOfNums).length = L.length := List.length_map ..
  have := seineref14_Turned.calls k A c (L.map strOfNums) _ w (by rw [hm]; exact hr) (by rw [hm]; exact hc) hk
  rw [hm] at this
  refine this.mono fun e w' ⟨v, he, ho, hb⟩ => ?_
  obtain ⟨A1, c1, rfl, hl, hC⟩ := Kd.R_reads ho
  rw [List.length_map] at he hl hC
  exact ⟨A1, c1, he, hl, hC, hb⟩
theorem least14_at (w : World) (A : Option Addr) (c : Nat) (T : List Txt) (hl : T.length ≤ 1000) (hne : ∀ t ∈ T, t ≠ []) (h2 : ∀ s ∈ T, s.length ≤ 1000) (hr : Kd.C Kd.string w A T.length (T.map strOfNums)) (hc : T.length ≤ c) :
    Calls Try.prog 38 #[.slice A T.length c] w fun e w' => e = .returned (.int .i64 (leastN T)) ∧ Below w.heap.size w w' := by
  obtain ⟨k, hk⟩ := least_two T hl hne h2
  have hm : (T.map strOfNums).length = T.length := List.length_map ..
  have := seineref14_Least.calls k A c (T.map strOfNums) _ w (by rw [hm]; exact hr) (by rw [hm]; exact hc) hk
  rw [hm] at this
  refine this.mono fun e w' ⟨he, nd, hw⟩ => ⟨he, ?_⟩
  subst hw
  exact pw_below_drewN (Below.refl _ _) nd
theorem near14_at (w : World) (A : Option Addr) (c : Nat) (T : List Txt) (hl : T.length ≤ 1000) (hB : ∀ t ∈ T, Bytes t) (h2 : ∀ s ∈ T, s.length ≤ 1000) (x : Int) (x0 : 0 ≤ x) (x1 : x ≤ 255) (hr : Kd.C Kd.string w A T.length (T.map strOfNums)) (hc : T.length ≤ c) :
    Calls Try.prog 43 #[.slice A T.length c, .int .u8 x] w fun e w' => e = .returned (.int .i64 (rd (nearN T) x)) ∧ Below w.heap.size w w' := by
  obtain ⟨k, hk⟩ := near_two T hl hB h2 x x0 x1
  have hm : (T.map strOfNums).length = T.length := List.length_map ..
  have := seineref14_Near.calls k A c (T.map strOfNums) _ _ w (by rw [hm]; exact hr) (by rw [hm]; exact hc) hk
  rw [hm] at this
  refine this.mono fun e w' ⟨he, nd, hw⟩ => ⟨he, ?_⟩
  subst hw
  exact pw_below_drewN (Below.refl _ _) nd
theorem turn14_at (w : World) (s : Txt) (hl : s.length ≤ 1099511627776) :
    Calls Try.prog 40 #[.string (strOfNums s)] w fun e w' => e = .returned (.string (strOfNums s.reverse)) ∧ Below w.heap.size w w' := by
  obtain ⟨k, hk⟩ := turn14_two s hl
  refine (seineref14_Turn.calls k (strOfNums s) _ w hk).mono fun e w' ⟨he, nd, hw⟩ => ⟨he, ?_⟩
  subst hw
  exact pw_below_drewN (Below.refl _ _) nd
theorem TL_bytes {L : List Txt} (hB : ∀ s ∈ L, Bytes s) : ∀ t ∈ TL L, Bytes t := fun t ht x hx => hB _ (TL_mem.1 ht).2 x (List.mem_reverse.2 hx)
theorem TL_short {L : List Txt} (h : ∀ s ∈ L, s.length ≤ 40) : ∀ t ∈ TL L, t.length ≤ 40 := fun t ht => by
  have := h _ (TL_mem.1 ht).2
  rwa [List.length_reverse] at this
end Go.Proofs.Ytifbcboefopioaa.Tri

/-! Plain: what the laws of layer 14 ask of the least length, the nearest places and the ends. No condition. -/
set_option linter.unusedVariables false
namespace Go.Proofs.Ytifbcboefopioaa.Tri
open Go.RowKit Go.Proofs.YtifbcboefopioaaW.PrintWords Go.Proofs.YtifbcboefopioaaW.PrintLast Go.Proofs.YtifbcboefopioaaW.PrintMore Go.Proofs.Ytifbcboefopioaa.Kit Go.Proofs.Ytifbcboefopioaa.All

/-- The least of some places, each told from nought on; 0: there is none. -/
def Sp (O : Nat → Prop) (v : Int) : Prop := (v = 0 ∧ ∀ m, ¬ O m) ∨ (0 < v ∧ (∃ m : Nat, O m ∧ v = (m : Int) + 1) ∧ ∀ m : Nat, O m → v ≤ (m : Int) + 1)
theorem Sp.congr {O O' : Nat → Prop} {v : Int} (h : Sp O v) (e : ∀ m, O m ↔ O' m) : Sp O' v := by
  rcases h with ⟨h0, h1⟩ | ⟨h0, ⟨m, hm, hv⟩, h2⟩
  · exact .inl ⟨h0, fun m hm => h1 m ((e m).2 hm)⟩
  · exact .inr ⟨h0, ⟨m, (e m).1 hm, hv⟩, fun m' hm' => h2 m' ((e m').2 hm')⟩
theorem sp_step {O : Nat → Prop} {v : Int} (h : Sp O v) (k : Nat) : Sp (fun m => O m ∨ m = k) (closer v ((k : Int) + 1)) := by
  unfold closer
  rcases h with ⟨h0, h1⟩ | ⟨h0, ⟨m, hm, hv⟩, h2⟩
  · rw [if_pos h0]
    exact .inr ⟨by omega, ⟨k, .inr rfl, rfl⟩, fun m hm => by rcases hm with h | h; exact absurd h (h1 m); omega⟩
  · rw [if_neg (by omega), Int.min_def]
    split
    · exact .inr ⟨h0, ⟨m, .inl hm, hv⟩, fun m' hm' => by rcases hm' with h | h; exact h2 m' h; omega⟩
    · exact .inr ⟨by omega, ⟨k, .inr rfl, rfl⟩, fun m' hm' => by rcases hm' with h | h; have := h2 m' h; omega; omega⟩
theorem nearT_sp {N : List Int} (hN : N.length = 256) {t : Txt} (hB : Bytes t) (c : Int) (c0 : 0 ≤ c) {O : Nat → Prop} (h : Sp O (rd N c)) : ∀ k, k ≤ t.length → Sp (fun m => O m ∨ (m < k ∧ rd t (m : Int) = c)) (rd (nearT N t k) c)
  | 0, _ => h.congr (fun m => ⟨fun h => .inl h, fun h => by rcases h with h | ⟨h, _⟩; exact h; omega⟩)
  | k + 1, hk => by
    have ih := nearT_sp hN hB c c0 h k (by omega)
    rw [nearT_step hN hB k (by omega) c c0]
    by_cases e : rd t (k : Int) = c
    · rw [if_pos e]
      refine (sp_step ih k).congr (fun m => ⟨fun h => ?_, fun h => ?_⟩)
      · rcases h with (h | ⟨h1, h2⟩) | h
        · exact .inl h
        · exact .inr ⟨by omega, h2⟩
        · subst h
          exact .inr ⟨by omega, e⟩
      · rcases h with h | ⟨h1, h2⟩
        · exact .inl (.inl h)
        · by_cases hm : m = k
          · exact .inr hm
          · exact .inl (.inr ⟨by omega, h2⟩)
    · rw [if_neg e]
      refine ih.congr (fun m => ⟨fun h => ?_, fun h => ?_⟩)
      · rcases h with h | ⟨h1, h2⟩
        · exact .inl h
        · exact .inr ⟨by omega, h2⟩
      · rcases h with h | ⟨h1, h2⟩
        · exact .inl h
        · by_cases hm : m = k
          · subst hm
            exact absurd h2 e
          · exact .inr ⟨by omega, h2⟩
theorem nearN_sp (T : List Txt) (hB : ∀ t ∈ T, Bytes t) (c : Int) (c0 : 0 ≤ c) : ∀ i, i ≤ T.length → Sp (fun m => ∃ t ∈ T.take i, m < t.length ∧ rd t (m : Int) = c) (rd (nearN (T.take i)) c)
  | 0, _ => by
    refine .inl ⟨?_, fun m ⟨t, ht, _⟩ => by simp at ht⟩
    rw [List.take_zero]
    show rd near0 c = 0
    unfold rd near0
    rw [List.getD_eq_getElem?_getD, List.getElem?_replicate]
    split <;> rfl
  | i + 1, hi => by
    have hl : i < T.length := by omega
    rw [List.take_succ_eq_append_getElem hl, nearN_snoc]
    refine (nearT_sp (nearN_len _) (hB _ (List.getElem_mem hl)) c c0 (nearN_sp T hB c c0 i (by omega)) T[i].length (Nat.le_refl _)).congr (fun m => ⟨fun h => ?_, fun h => ?_⟩)
    · rcases h with ⟨t, ht, h⟩ | h
      · exact ⟨t, List.mem_append_left _ ht, h⟩
      · exact ⟨T[i], List.mem_append.2 (.inr (List.mem_singleton.2 rfl)), h⟩
    · obtain ⟨t, ht, h⟩ := h
      rcases List.mem_append.1 ht with ht | ht
      · exact .inl ⟨t, ht, h⟩
      · rw [List.mem_singleton] at ht
        subst ht
        exact .inr h
theorem near_spec (T : List Txt) (hB : ∀ t ∈ T, Bytes t) (c : Int) (c0 : 0 ≤ c) : Sp (fun m => ∃ t ∈ T, m < t.length ∧ rd t (m : Int) = c) (rd (nearN T) c) := by
  have := nearN_sp T hB c c0 T.length (Nat.le_refl _)
  rwa [List.take_length] at this
theorem rd_rev (s : Txt) (m : Nat) (h : m < s.length) : rd s.reverse (m : Int) = rd s ((s.length : Int) - ((m : Int) + 1)) := by
  rw [rd_nat, rd_of (j := s.length - 1 - m) (by omega)]
  simp only [List.getD_eq_getElem?_getD, List.getElem?_reverse h]

/-! ### the law of the least -/
def hitB (s : Txt) (x k : Int) (m : Nat) : Bool := (List.range m).any fun (j : Nat) => (rd s ((s.length : Int) - ((j : Int) + 1)) == x) && (((j : Int) + 1) == k)
theorem hitB_next (s : Txt) (x k : Int) (m : Nat) : hitB s x k (m + 1) = (hitB s x k m || ((rd s ((s.length : Int) - ((m : Int) + 1)) == x) && (((m : Int) + 1) == k))) := by simp [hitB, List.range_succ]
def thereB (x k : Int) (l : List Txt) : Bool := (k == 0) || l.any fun s => hitB s x k s.length
theorem thereB_snoc (x k : Int) (l : List Txt) (s : Txt) : thereB x k (l ++ [s]) = (thereB x k l || hitB s x k s.length) := by simp [thereB, Bool.or_assoc]
def isB (n : Int) (l : List Txt) : Bool := (n == 0) || l.any fun s => !s.isEmpty && ((s.length : Int) == n)
theorem isB_snoc (n : Int) (l : List Txt) {s : Txt} (hs : s ≠ []) : isB n (l ++ [s]) = (isB n l || ((s.length : Int) == n)) := by
  have hs' : s.isEmpty = false := by
    cases s with
    | nil => exact absurd rfl hs
    | cons => rfl
  simp [isB, Bool.or_assoc, hs']
theorem isB_skip (n : Int) (l : List Txt) : isB n (l ++ [[]]) = isB n l := by simp [isB]
theorem thereB_skip (x k : Int) (l : List Txt) : thereB x k (l ++ [[]]) = thereB x k l := by simp [thereB, hitB]
theorem mem_TL {L : List Txt} {s : Txt} (h : s ∈ L) (h0 : s ≠ []) : s.reverse ∈ TL L := TL_mem.2 ⟨by simpa using h0, by simpa using h⟩
theorem least_round {L : List Txt} {s : Txt} (h : s ∈ L) (h0 : s ≠ []) : 0 < leastN (TL L) ∧ leastN (TL L) ≤ s.length := by
  have hm := mem_TL h h0
  obtain ⟨h1, _, h2⟩ := leastN_pos (TL_ne L) (List.ne_nil_of_mem hm)
  have := h2 _ hm
  rw [List.length_reverse] at this
  exact ⟨h1, this⟩
theorem near_round {L : List Txt} (hB : ∀ s ∈ L, Bytes s) {x : Int} (x0 : 0 ≤ x) {s : Txt} (h : s ∈ L) (m : Nat) (hm : m < s.length) (hx : rd s ((s.length : Int) - ((m : Int) + 1)) = x) : 0 < rd (nearN (TL L)) x ∧ rd (nearN (TL L)) x ≤ (m : Int) + 1 := by
  have h0 : s ≠ [] := by
    rintro rfl
    simp at hm
  rcases near_spec (TL L) (TL_bytes hB) x x0 with ⟨_, h1⟩ | ⟨h1, _, h2⟩
  · exact absurd ⟨s.reverse, mem_TL h h0, by rwa [List.length_reverse], by rw [rd_rev s m hm, hx]⟩ (h1 m)
  · exact ⟨h1, h2 m ⟨s.reverse, mem_TL h h0, by rwa [List.length_reverse], by rw [rd_rev s m hm, hx]⟩⟩
theorem isB_all (L : List Txt) : isB (leastN (TL L)) L = true := by
  by_cases h : TL L = []
  · rw [h]
    rfl
  · obtain ⟨_, ⟨t, ht, e⟩, _⟩ := leastN_pos (TL_ne L) h
    obtain ⟨h1, h2⟩ := TL_mem.1 ht
    unfold isB
    rw [Bool.or_eq_true]
    right
    rw [List.any_eq_true]
    refine ⟨t.reverse, h2, ?_⟩
    rw [e, List.length_reverse]
    simp [h1]
theorem thereB_all {L : List Txt} (hB : ∀ s ∈ L, Bytes s) {x : Int} (x0 : 0 ≤ x) : thereB x (rd (nearN (TL L)) x) L = true := by
  unfold thereB
  rw [Bool.or_eq_true]
  rcases near_spec (TL L) (TL_bytes hB) x x0 with ⟨h0, _⟩ | ⟨h0, ⟨m, ⟨t, ht, hm, hx⟩, hv⟩, _⟩
  · left
    simp [h0]
  · right
    obtain ⟨h1, h2⟩ := TL_mem.1 ht
    rw [List.any_eq_true]
    refine ⟨t.reverse, h2, ?_⟩
    unfold hitB
    rw [List.any_eq_true]
    refine ⟨m, List.mem_range.2 (by rwa [List.length_reverse]), ?_⟩
    have := rd_rev t.reverse m (by rwa [List.length_reverse])
    rw [List.reverse_reverse] at this
    rw [← this, hx, hv]
    simp

/-! ### the law of the ends -/
/-- Is a text an end of another one? -/
def endB (e s : Txt) : Bool := decide (e.length ≤ s.length) && (s.drop (s.length - e.length) == e)
def isE (e : Txt) (l : List Txt) : Bool := l.any fun s => endB e s
def wholeE (e : Txt) (l : List Txt) : Bool := l.any fun s => (s == e) && !e.isEmpty
theorem isE_snoc (e : Txt) (l : List Txt) (s : Txt) : isE e (l ++ [s]) = (isE e l || endB e s) := by simp [isE]
theorem wholeE_snoc (e : Txt) (l : List Txt) (s : Txt) : wholeE e (l ++ [s]) = (wholeE e l || ((s == e) && !e.isEmpty)) := by simp [wholeE]
theorem paths_in (T : List Txt) : ∀ p ∈ pathsL T, p = [] ∨ ∃ t ∈ T, ∃ n, p = t.take n :=
  pathsFrom_all T [[]] (fun x hx => .inl (by simpa using hx)) (fun s hs n _ => .inr ⟨s, hs, n, rfl⟩)
theorem isE_all {L : List Txt} (hL : L ≠ []) {p : Txt} (hp : p ∈ pathsL (TL L)) : isE p.reverse L = true := by
  unfold isE
  rw [List.any_eq_true]
  rcases paths_in _ p hp with rfl | ⟨t, ht, n, rfl⟩
  · obtain ⟨s, hs⟩ := List.exists_mem_of_ne_nil L hL
    exact ⟨s, hs, by simp [endB]⟩
  · obtain ⟨h1, h2⟩ := TL_mem.1 ht
    refine ⟨t.reverse, h2, ?_⟩
    unfold endB
    rw [Bool.and_eq_true, decide_eq_true_eq, beq_iff_eq]
    simp only [List.length_reverse, List.length_take]
    refine ⟨by omega, ?_⟩
    rw [List.reverse_take, show t.length - min n t.length = t.length - n by omega]
theorem wholeE_all {L : List Txt} (p : Txt) : wholeE p.reverse L = wholeB (place (TL L) p) := by
  unfold wholeE wholeB
  rw [Bool.eq_iff_iff, List.any_eq_true, decide_eq_true_eq, place_pos, TL_mem]
  constructor
  · rintro ⟨s, hs, h⟩
    rw [Bool.and_eq_true, beq_iff_eq] at h
    obtain ⟨rfl, h⟩ := h
    exact ⟨by simpa using h, hs⟩
  · rintro ⟨h1, h2⟩
    exact ⟨_, h2, by simp [h1]⟩
theorem ends_mem {L : List Txt} {s : Txt} (hs : s ∈ L) (n : Nat) : (s.drop n).reverse ∈ pathsL (TL L) := by
  by_cases h0 : s = []
  · subst h0
    simpa using (pathsL_good (TL L)).nil_mem
  · rw [List.reverse_drop]
    exact (pathsL_good (TL L)).prefix (pathsL_mem (TL L) _ (mem_TL hs h0)) _
end Go.Proofs.Ytifbcboefopioaa.Tri
