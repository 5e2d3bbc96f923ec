/- By hand: the contracts of slices.Clone, cuts.between, cuts.Pieces and cuts.Each: what each makes is new memory, and told by a plain function. No condition. -/
import Derived.Test.YtepfdbdhfedknaaAllx1
import Derived.Test.YtepfdbdhfedknaaPxWords
import Derived.Lib.LazyBuf
namespace Go.Proofs.Ytepfdbdhfedknaa.All
open Go.RowKit Go.Proofs.YtepfdbdhfedknaaW.PrintWords Go.Proofs.YtepfdbdhfedknaaW.PrintLast Go.Proofs.YtepfdbdhfedknaaW.PrintMore
attribute [local go_sem] max2_int min2_int max_two min_two max_three min_three max_four min_four

set_option maxHeartbeats 8000000 in
set_option maxRecDepth 100000 in
theorem slices_Clone.calls (A0 : Option Addr) (c0 : Nat) (l0 : List Int) (w : World) (hr0 : Kd.C (Kd.int .u8) w A0 l0.length l0) (hc0 : l0.length ≤ c0) (hm : l0.length ≤ 140737488355328) :
    Calls Try.prog 15 #[.slice A0 l0.length c0] w fun e w' => ∃ v0_ : Value, e = .returned v0_ ∧ Kd.R (Kd.int .u8) 5 w' w.heap.size (fun _ => True) v0_ l0 ∧ Below w.heap.size w w' := by
  have q22 : ∀ (w : World) (a : Option Addr) (n c : Nat), (binOp .eql 22 (.slice a n c) (.slice none 0 0)).run Try.prog w = .ok (.bool a.isNone) w := fun w a n c => Go.run_eql_slice_nil w 22 5 a n c Try.underlying22
  rcases A0 with _ | ad
  · have h0 : l0.length = 0 := by
      rcases Nat.eq_zero_or_pos l0.length with h0 | h0
      · exact h0
      · obtain ⟨ad, h, _⟩ := hr0.2.2 h0
        cases h
    obtain rfl : l0 = [] := List.eq_nil_of_length_eq_zero h0
    go_enter Try.func15, Try.ntmps15
    go_wp2
    go_ret
    exact ⟨_, rfl, Kd.R_nil _ _ _ _ _, Below.refl _ _⟩
  · have HR0 := Aside0.mk hr0
    have HC0 := Aside0.mk hc0
    clear hr0 hc0
    go_enter Try.func15, Try.ntmps15
    go_wp2_with ((with_reducible refine gate_builtin (b := .append) (xs := #[.tmp 5, .tmp 6]) rfl ?_); at_builtin; refine Kd.R_append_rows (Kd.int .u8) (w0 := w) w.heap.size rfl (.tmp 5) (.tmp 6) 22 5 (.int .u8 0) 1 rfl Try.underlying22 info5 rfl (by decide) (by omega) (.slice (some ⟨w.heap.size, 0, none⟩) 0 0) [] l0 (some ad) l0.length c0 (fun _ => True) (fun _ => False) rfl rfl ?aO ?aR (fun _ _ h => h) (fun _ h => h.elim) ?aF ?aB ?aS ?aL ?_; (case aR => exact Kd.C_alloc HR0.out _); (case aB => exact below_alloc (Below.refl _ _) _); (case aF => exact (fun _ _ => trivial)); (case aO => exact ⟨fun _ _ => trivial, [], World.ownsRow_made w #[] 0 (Nat.le_refl _) (Nat.zero_le _) rfl, Reps.none _ _⟩); (case aS => simp); (case aL => simp; omega); intro v1 w1 ho hb hg hat; have HO1 := Aside0.mk ho; have HB1 := Aside0.mk hb; clear ho hb hg hat)
    go_ret
    exact ⟨_, rfl, by simpa using HO1.out, HB1.out⟩

theorem info22 : (Try.prog.info? 22).map (fun i => (i.zero, i.size, i.bytes)) = some (some (.slice none 0 0), 1, 24) := by kernel_rfl
/-- Places never fall, from some place on, to the last. -/
def Up (n : Int) : Int → List Int → Prop
  | _, [] => True
  | last, p :: ps => last ≤ p ∧ p ≤ n ∧ Up n p ps
/-- The pieces between places, as Go's own values: what is behind a piece is no room of its. -/
def pvs (A : Option Addr) : Int → List Int → List Value
  | _, [] => []
  | last, p :: ps => sliced A last.toNat p.toNat p.toNat 1 :: pvs A p ps
theorem rd_drop {l : List Int} {i : Nat} (h : i < l.length) : l.drop i = rd l i :: l.drop (i + 1) := by
  rw [List.drop_eq_getElem_cons h]
  simp [rd, List.getD_eq_getElem?_getD, h]
set_option maxHeartbeats 8000000 in
set_option maxRecDepth 100000 in
theorem cuts_between.raw (A0 : Option Addr) (c0 : Nat) (l0 : List Int) (v : Value) (ps : List Int) (w0 w : World) (hB : Below w0.heap.size w0 w)
    (hP : Kd.R (Kd.int .i64) 3 w w0.heap.size (fun _ => True) v ps) (hl : ps.length < 1099511627776) (hu : Up l0.length 0 (ps ++ [(l0.length : Int)])) (hc : l0.length ≤ c0) :
    Calls Try.prog 16 #[.slice A0 l0.length c0, v] w fun e w' => ∃ v0_ : Value, e = .returned v0_ ∧ Kd.R (Kd.raw 1) 22 w' w.heap.size (fun _ => True) v0_ ((pvs A0 0 (ps ++ [(l0.length : Int)])).map fun x => [x]) ∧ Below w0.heap.size w0 w' ∧ (∀ k, k < w.heap.size → some k ≠ v.ownBlock → w'.heap[k]? = w.heap[k]?) := by
  have HB := Aside0.mk hB
  have HO := Aside0.mk hP
  have HU := Aside0.mk hu
  have HC := Aside0.mk hc
  clear hP hB hu hc
  obtain ⟨A1, c1, rfl, hc1, hC1⟩ := Kd.R_reads HO.out
  clear hC1
  have HC1 := Aside0.mk hc1
  clear hc1
  go_enter Try.func16, Try.ntmps16
  go_wp2_with ((with_reducible refine gate_builtin (b := .append) (xs := #[.tmp 9, .tmp 12]) rfl ?_); at_builtin; refine Kd.R_append (Kd.int .i64) (w0 := w0) w0.heap.size rfl (.tmp 9) (.tmp 12) 23 3 (.int .i64 0) 8 rfl Try.underlying23 info3 rfl (by decide) (by omega) (.slice A1 ps.length c1) ps (l0.length : Int) [.int .i64 (l0.length : Int)] (fun _ => True) (fun _ => False) rfl rfl ?aP (fun _ hk => hk.elim) ?aF ?aO ?aB ?aS ?aL ?_; (case aP => exact rfl); (case aB => exact HB.out); (case aF => exact (fun _ _ => trivial)); (case aO => exact HO.out); (case aS => exact below_size HB.out); (case aL => omega); intro v1 w1 ho hb hg hat; obtain ⟨A2, c2, rfl, hc2, hC2⟩ := Kd.R_reads ho; have HC2 := Aside0.mk hC2; clear hC2 hc2; have HO1 := Aside0.mk ho; have HB1 := Aside0.mk hb; have HG1 := Aside0.mk hg; clear ho hb hg hat)
  go_loopw [5, 6, 15] (fun v5 v6 v15 w' => ∃ (i : Nat) (last : Int) (xs : List Value), v6 = .int .i64 last ∧ v15 = .int .i64 i ∧ i ≤ ps.length + 1 ∧ 0 ≤ last ∧ xs.length = i ∧ Aside0 (Up l0.length last ((ps ++ [(l0.length : Int)]).drop i)) ∧ Aside0 (xs ++ pvs A0 last ((ps ++ [(l0.length : Int)]).drop i) = pvs A0 0 (ps ++ [(l0.length : Int)])) ∧ Aside0 (Kd.R (Kd.raw 1) 22 w' w1.heap.size (fun _ => True) v5 (xs.map fun x => [x])) ∧ Aside0 (Below w1.heap.size w1 w')) (fun _ _ v15 _ => ps.length + 1 - (intOf v15).toNat)
  case atStart => exact ⟨0, 0, [], rfl, rfl, Nat.zero_le _, Int.le_refl _, rfl, HU, ⟨rfl⟩, ⟨Kd.R_nil _ _ _ _ _⟩, ⟨Below.refl _ _⟩⟩
  case round =>
    obtain ⟨i, last, xs, rfl, rfl, hi, h0, hx, HU1, HE, HX, HW⟩ := hrel
    by_cases hlt : i < ps.length + 1
    · have hq : i < (ps ++ [(l0.length : Int)]).length := by simp; omega
      obtain ⟨p, hp⟩ : ∃ p, p = rd (ps ++ [(l0.length : Int)]) i := ⟨_, rfl⟩
      have hu := HU1.out
      have he := HE.out
      rw [rd_drop hq, ← hp] at hu he
      obtain ⟨u1, u2, u3⟩ := hu
      have HU2 := Aside0.mk u3
      have HE2 := Aside0.mk he
      clear u3 he HU1 HE
      obtain ⟨ad, e0, hx0⟩ := Kd.at_int HC2.out (i : Int) (by omega) (by omega)
      cases e0
      rw [← hp] at hx0
      simp only [Int.toNat_natCast] at hx0
      replace hx0 := (HW.out.cell (World.block_lt_of_cell? w1 _ hx0)).trans hx0
      have k1 : ((i : Nat) : Int) < ((ps ++ [(l0.length : Int)]).length : Int) := by omega
      have u1' : last.toNat ≤ p.toNat := by omega
      have u4 : 0 ≤ p := by omega
      have u5' : p ≤ (c0 : Int) := by have := HC.out; omega
      have HP := Aside0.mk hp
      clear hp
      obtain ⟨pv, hpv⟩ : ∃ pv, sliced A0 last.toNat p.toNat p.toNat 1 = pv := ⟨_, rfl⟩
      have HPV := Aside0.mk hpv
      simp only [sliced, Nat.mul_one] at hpv
      have HPV2 := Aside0.mk hpv
      clear hpv
      go_wp2_with ((with_reducible refine gate_builtin (b := .append) (xs := #[.tmp 19, .tmp 25]) rfl ?_); at_builtin; rw [HPV2.out]; refine Kd.R_append (Kd.raw 1) (w0 := w1) w1.heap.size rfl (.tmp 19) (.tmp 25) 26 22 (.slice none 0 0) 24 rfl Try.underlying26 info22 rfl (by decide) (by omega) u5 (xs.map fun x => [x]) [pv] [pv] (fun _ => True) (fun _ => False) rfl rfl ?aP (fun _ hk => hk.elim) ?aF ?aO ?aB ?aS ?aL ?_; (case aP => exact ⟨rfl, rfl, by simp [← HPV2.out, Value.oneCell']⟩); (case aB => exact HW.out); (case aF => exact (fun _ _ => trivial)); (case aO => exact HX.out); (case aS => exact below_size HW.out); (case aL => simp; omega); intro v3 w3 ho hb hg hat; have HX3 := Aside0.mk ho; have HW3 := Aside0.mk hb; clear ho hb hg hat HX HW)
      go_roundw
      case rel => exact ⟨i + 1, p, xs ++ [pv], rfl, by go_num, by omega, by omega, by simp [hx], HU2, ⟨by rw [← HE2.out, pvs, HPV.out]; simp⟩, ⟨by simpa using HX3.out⟩, HW3⟩
      case measure => simp [intOf]; omega
    · have hi' : i = ps.length + 1 := by omega
      have k1 : ¬ ((i : Nat) : Int) < ((ps ++ [(l0.length : Int)]).length : Int) := by simp; omega
      have he := HE.out
      rw [List.drop_of_length_le (by simp; omega), pvs, List.append_nil] at he
      go_wp2
      go_ret
      refine ⟨_, rfl, ?_, ?_, ?_⟩
      · rw [← he]
        exact Kd.R_lower HX.out HG1.out.size
      · exact below_step HB1.out HW.out
      · intro k hk hne
        exact (HW.out.block k (Nat.lt_of_lt_of_le hk HG1.out.size)).trans (HG1.out.block k hk hne)

/-! ### plain: places and pieces -/
/-- The places of cuts: each no nearer than the one ahead, none beyond the end. -/
def placesL (n : Int) : Int → List Int → List Int
  | _, [] => []
  | last, c :: cs => mn (mx c last) (mx n 0) :: placesL n (mn (mx c last) (mx n 0)) cs
/-- The pieces between places. -/
def piecesP (l : List Int) : Int → List Int → List (List Int)
  | _, [] => []
  | last, p :: ps => (l.take p.toNat).drop last.toNat :: piecesP l p ps
theorem up_places (n : Int) : ∀ (cs : List Int) (last : Int), 0 ≤ n → 0 ≤ last → last ≤ n → Up n last (placesL n last cs ++ [n])
  | [], last, _, _, h => ⟨h, Int.le_refl _, trivial⟩
  | c :: cs, last, h0, h1, h2 => by
    have e : mx n 0 = n := by unfold mx; split <;> omega
    have k1 : last ≤ mn (mx c last) (mx n 0) := by rw [e]; unfold mn mx; split <;> split <;> omega
    have k2 : mn (mx c last) (mx n 0) ≤ n := by rw [e]; unfold mn mx; split <;> split <;> omega
    exact ⟨k1, k2, up_places n cs _ h0 (by omega) k2⟩
theorem wrap_id0 {x : Int} (h0 : -9223372036854775808 ≤ x) (h1 : x ≤ 9223372036854775807) : wrap64 x = x := by unfold wrap64; omega
theorem places_l0 (n : Int) (l : List Int) (hl : l.length < 1099511627776) : ∀ (k i : Nat) (out : List Int) (last : Int), out.length = i → i ≤ l.length → l.length < i + k →
    cuts_Places.l0 k n out last l (l.length : Int) (i : Int) = some (out ++ placesL n last (l.drop i)) := by
  intro k
  induction k with
  | zero => intro i out last h1 h2 h3; omega
  | succ k ih =>
    intro i out last h1 h2 h3
    rw [cuts_Places.l0]
    by_cases h : i < l.length
    · rw [if_pos (by omega), if_pos (by omega), if_pos (by omega), if_pos (by omega), rd_drop h, placesL]
      rw [show wrap64 ((i : Int) + 1) = ((i + 1 : Nat) : Int) by rw [wrap_id0 (by omega) (by omega)]; omega]
      rw [ih (i + 1) _ _ (by simp [h1]) (by omega) (by omega)]
      simp
    · rw [if_neg (by omega), List.drop_of_length_le (by omega), placesL, List.append_nil]
theorem places_f (n : Int) (l : List Int) (hl : l.length < 1099511627776) {k : Nat} (hk : l.length < k) : cuts_Places.f k n l = some (placesL n 0 l) := by
  have := places_l0 n l hl k 0 [] 0 rfl (Nat.zero_le _) (by omega)
  simpa [cuts_Places.f] using this
theorem placesL_length (n : Int) : ∀ (cs : List Int) (last : Int), (placesL n last cs).length = cs.length
  | [], _ => rfl
  | c :: cs, last => by simp [placesL, placesL_length n cs]

/-! ### what the raw values say -/
/-- A row's piece: its own room and no more. -/
theorem piece_C {W : World} {A : Option Addr} {l : List Int} (h : Kd.C (Kd.int .u8) W A l.length l) {lo hi : Nat} (h1 : lo ≤ hi) (h2 : hi ≤ l.length) :
    ∃ A', sliced A lo hi hi 1 = .slice A' ((l.take hi).drop lo).length ((l.take hi).drop lo).length ∧ Kd.C (Kd.int .u8) W A' ((l.take hi).drop lo).length ((l.take hi).drop lo) := by
  have hlen : ((l.take hi).drop lo).length = hi - lo := by simp; omega
  refine ⟨if hi = lo then A else A.map (·.add (lo * 1)), by rw [hlen]; rfl, ?_⟩
  by_cases he : hi = lo
  · refine ⟨rfl, by rw [hlen]; have := h.2.1; omega, fun hp => ?_⟩
    rw [hlen] at hp
    omega
  · rw [if_neg he]
    have := Kd.C_mid (c := l.length + lo + 1) h h1 h2 (by omega)
    rw [if_neg (by omega)] at this
    exact this
theorem pvs_get {W : World} {A : Option Addr} {l : List Int} (h : Kd.C (Kd.int .u8) W A l.length l) : ∀ (ps : List Int) (last : Int), 0 ≤ last → Up l.length last ps → ∀ (j : Nat) (x : List Int), (piecesP l last ps)[j]? = some x →
    ∃ A', (pvs A last ps)[j]? = some (.slice A' x.length x.length) ∧ Kd.C (Kd.int .u8) W A' x.length x
  | [], _, _, _, j, x, hx => by simp [piecesP] at hx
  | p :: ps, last, h0, hu, j, x, hx => by
    obtain ⟨u1, u2, u3⟩ := hu
    cases j with
    | zero =>
      simp only [piecesP, List.getElem?_cons_zero, Option.some.injEq] at hx
      subst hx
      obtain ⟨A', e, hC⟩ := piece_C h (lo := last.toNat) (hi := p.toNat) (by omega) (by omega)
      exact ⟨A', by rw [pvs, List.getElem?_cons_zero, e], hC⟩
    | succ j =>
      simp only [piecesP, List.getElem?_cons_succ] at hx
      obtain ⟨A', e, hC⟩ := pvs_get h ps p (by omega) u3 j x hx
      exact ⟨A', by rw [pvs, List.getElem?_cons_succ, e], hC⟩
theorem pvs_length (A : Option Addr) (l : List Int) : ∀ (ps : List Int) (last : Int), (pvs A last ps).length = ps.length ∧ (piecesP l last ps).length = ps.length
  | [], _ => ⟨rfl, rfl⟩
  | p :: ps, last => by have := pvs_length A l ps p; simp [pvs, piecesP, this]
/-- A row of raw values, each of which is a row: as a row of rows. -/
theorem raw_C {W : World} {A : Option Addr} {n : Nat} {vs : List Value} {xs : List (List Int)} (h : Kd.C (Kd.raw 1) W A n (vs.map fun x => [x])) (hl : xs.length = vs.length)
    (hx : ∀ (j : Nat) (x : List Int), xs[j]? = some x → ∃ A' c', vs[j]? = some (.slice A' x.length c') ∧ x.length ≤ c' ∧ Kd.C (Kd.int .u8) W A' x.length x) : Kd.C (Kd.slice 5 (Kd.int .u8)) W A n xs := by
  obtain ⟨h1, h2, h3⟩ := h
  refine ⟨by rw [hl]; simpa using h1, h2, fun hp => ?_⟩
  obtain ⟨ad, rfl, hc⟩ := h3 hp
  refine ⟨ad, rfl, fun j x hj => ?_⟩
  obtain ⟨A', c', hv, hle, hC⟩ := hx j x hj
  obtain ⟨c, hcl, hr, hcell⟩ := hc j [.slice A' x.length c'] (by rw [List.getElem?_map, hv]; rfl)
  obtain ⟨rfl, _, _⟩ := hr
  exact ⟨_, rfl, ⟨A', c', rfl, hle, hC⟩, hcell⟩
/-- A row's blocks are all younger than was told. -/
theorem R_young {α : Type} {d : Kd α} {e : Nat} {W : World} {base : Nat} {ok : Nat → Prop} {v : Value} {xs : List α} (h : Kd.R d e W base ok v xs) : Kd.R d e W base (fun k => base ≤ k) v xs := Kd.R_mono (Kd.R_bound h) (fun _ hk => hk.2.1)
/-- .. as a row that is only read. -/
theorem raw_V {W : World} {base : Nat} {v : Value} {vs : List Value} {xs : List (List Int)} (h : Kd.R (Kd.raw 1) 22 W base (fun _ => True) v (vs.map fun x => [x])) (hl : xs.length = vs.length)
    (hx : ∀ W' : World, (∀ k, base ≤ k → k < W.heap.size → W'.heap[k]? = W.heap[k]?) → ∀ (j : Nat) (x : List Int), xs[j]? = some x → ∃ A' c', vs[j]? = some (.slice A' x.length c') ∧ x.length ≤ c' ∧ Kd.C (Kd.int .u8) W' A' x.length x) : Kd.V (Kd.slice 5 (Kd.int .u8)) 22 W base (fun k => base ≤ k) v xs := by
  replace h := R_young h
  obtain ⟨A, c, rfl, hc, _⟩ := Kd.R_reads h
  rw [List.length_map, ← hl] at hc h ⊢
  refine Kd.V_mk hc (fun W' hW => ?_)
  obtain ⟨_, _, hC⟩ := Kd.R_reads' (Kd.R_step h hW)
  rw [List.length_map, ← hl] at hC
  exact raw_C hC hl (hx W' hW)

/-! ### cuts.Pieces -/
def cuts_Pieces.f (l0 l1 : List Int) : Option (List (List Int)) :=
  if l0.length < 1099511627776 then if l1.length < 1099511627776 then some (piecesP l0 0 (placesL l0.length 0 l1 ++ [(l0.length : Int)])) else none else none
set_option maxHeartbeats 8000000 in
set_option maxRecDepth 100000 in
theorem cuts_Pieces.raw (A0 : Option Addr) (c0 : Nat) (l0 : List Int) (A1 : Option Addr) (c1 : Nat) (l1 : List Int) (w : World) (hr0 : Kd.C (Kd.int .u8) w A0 l0.length l0) (hc0 : l0.length ≤ c0) (hr1 : Kd.C (Kd.int .i64) w A1 l1.length l1) (hc1 : l1.length ≤ c1) (h0 : l0.length < 1099511627776) (h1 : l1.length < 1099511627776) :
    Calls Try.prog 9 #[.slice A0 l0.length c0, .slice A1 l1.length c1] w fun e w' => ∃ (v0_ : Value) (A : Option Addr), e = .returned v0_ ∧ Kd.R (Kd.raw 1) 22 w' w.heap.size (fun _ => True) v0_ ((pvs A 0 (placesL l0.length 0 l1 ++ [(l0.length : Int)])).map fun x => [x]) ∧ Kd.F (Kd.int .u8) w' (fun k => w.heap.size ≤ k) A l0.length l0 ∧ Below w.heap.size w w' := by
  have HR0 := Aside0.mk hr0
  have HC0 := Aside0.mk hc0
  have HR1 := Aside0.mk hr1
  have HC1 := Aside0.mk hc1
  clear hr0 hc0 hr1 hc1
  go_enter Try.func9, Try.ntmps9
  go_wp2_with (first | (go_at_call 15; (refine (slices_Clone.calls _ _ l0 _ ?side1 ?side2 ?side3).mono ?_); (case side1 => exact HR0.out); (case side2 => exact HC0.out); (case side3 => omega); rintro e w1 ⟨v1, rfl, ho, hb⟩; obtain ⟨A2, c2, rfl, hc2, hC2⟩ := Kd.R_reads ho; have HC2 := Aside0.mk hC2; have HL2 := Aside0.mk hc2; have HO1 := Aside0.mk ho; have HB1 := Aside0.mk hb; clear ho hb hc2 hC2) | (go_at_call 12; (refine (cuts_Places.calls (l1.length + 1) _ _ _ l1 (placesL l0.length 0 l1) _ ?side1 ?side2 (places_f _ l1 h1 (Nat.lt_succ_self _))).mono ?_); (case side1 => exact Kd.C_below HR1.out HB1.out); (case side2 => exact HC1.out); rintro e w2 ⟨v2, rfl, ho, hb⟩; have HO2 := Aside0.mk ho; have HB2 := Aside0.mk hb; clear ho hb) | (go_at_call 16; (refine (cuts_between.raw _ _ l0 _ (placesL l0.length 0 l1) w1 _ ?side1 ?side2 ?side3 ?side4 ?side5).mono ?_); (case side1 => exact HB2.out); (case side2 => exact HO2.out); (case side3 => rw [placesL_length]; exact h1); (case side4 => exact up_places _ _ _ (by omega) (by omega) (by omega)); (case side5 => exact HL2.out); rintro e w3 ⟨v3, rfl, ho, hb, hk⟩; have HO3 := Aside0.mk ho; have HB3 := Aside0.mk hb; have HK3 := Aside0.mk hk; clear ho hb hk))
  go_ret
  have hs12 : w1.heap.size ≤ w2.heap.size := below_size HB2.out
  refine ⟨_, A2, rfl, Kd.R_lower HO3.out (Nat.le_trans (below_size HB1.out) hs12), ?_, below_step HB1.out HB3.out⟩
  have hstep : ∀ k, True → k < w1.heap.size → w3.heap[k]? = w1.heap[k]? := fun k _ hk => by
    refine (HK3.out k (Nat.lt_of_lt_of_le hk hs12) (fun he => ?_)).trans (HB2.out.block k hk)
    have := Kd.R_base HO2.out k he.symm
    omega
  exact Kd.R_F (R_young (Kd.R_step HO1.out hstep))
theorem cuts_Pieces.calls (A0 : Option Addr) (c0 : Nat) (l0 : List Int) (A1 : Option Addr) (c1 : Nat) (l1 : List Int) (r : List (List Int)) (w : World) (hr0 : Kd.C (Kd.int .u8) w A0 l0.length l0) (hc0 : l0.length ≤ c0) (hr1 : Kd.C (Kd.int .i64) w A1 l1.length l1) (hc1 : l1.length ≤ c1) (h : cuts_Pieces.f l0 l1 = some r) :
    Calls Try.prog 9 #[.slice A0 l0.length c0, .slice A1 l1.length c1] w fun e w' => ∃ v0_ : Value, e = .returned v0_ ∧ Kd.V (Kd.slice 5 (Kd.int .u8)) 22 w' w.heap.size (fun k => w.heap.size ≤ k) v0_ r ∧ Below w.heap.size w w' := by
  unfold cuts_Pieces.f at h
  by_cases h0 : l0.length < 1099511627776
  · rw [if_pos h0] at h
    by_cases h1 : l1.length < 1099511627776
    · rw [if_pos h1] at h
      obtain rfl := Option.some.inj h
      refine (cuts_Pieces.raw A0 c0 l0 A1 c1 l1 w hr0 hc0 hr1 hc1 h0 h1).mono fun e w' ⟨v, A, he, hR, hC, hB⟩ => ⟨v, he, ?_, hB⟩
      have hlen := pvs_length A l0 (placesL l0.length 0 l1 ++ [(l0.length : Int)]) 0
      refine raw_V hR (by rw [hlen.1, hlen.2]) (fun W' hW j x hj => ?_)
      obtain ⟨A', e', hC'⟩ := pvs_get (hC W' hW) _ 0 (Int.le_refl _) (up_places _ l1 0 (by omega) (by omega) (by omega)) j x hj
      exact ⟨A', _, e', Nat.le_refl _, hC'⟩
    · rw [if_neg h1] at h
      exact absurd h (by simp)
  · rw [if_neg h0] at h
    exact absurd h (by simp)
end Go.Proofs.Ytepfdbdhfedknaa.All
