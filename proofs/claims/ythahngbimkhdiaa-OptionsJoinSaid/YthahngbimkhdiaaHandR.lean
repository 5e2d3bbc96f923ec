/- By hand: the contract of options.Read: a text's options, or that it is none. No condition but a text's length. -/
import Derived.Test.YthahngbimkhdiaaHand
import Derived.Test.YthahngbimkhdiaaHandW
namespace Go.Proofs.Ythahngbimkhdiaa.All
open Go.RowKit Go.Proofs.YthahngbimkhdiaaW.PrintWords Go.Proofs.YthahngbimkhdiaaW.PrintLast Go.Proofs.YthahngbimkhdiaaW.PrintMore
attribute [local go_sem] max2_int min2_int max_two min_two max_three min_three max_four min_four

theorem blank_pays (w : World) : PredAtRunes Try.prog 19 #[] Fld.blank w := fun W r _ _ => by
  unfold FnGives
  have hb : Fld.blank r = ((r : Int) == 32) := by
    unfold Fld.blank
    rw [Bool.eq_iff_iff]
    simp
    omega
  rw [hb]
  go_enter Try.func19, Try.ntmps19
  go_wp2
  go_ret
  exact ⟨rfl, 0, rfl⟩
theorem fields_at (s : ByteArray) (w : World) (hs : s.size ≤ 4294967296) :
    Calls Try.prog 18 #[.string s, .func (.func 19) #[] #[]] w fun e w' => ∃ A, e = .returned (.slice (some ⟨A, 0, none⟩) (Lib.goFieldsP Fld.blank s).length (Lib.goFieldsP Fld.blank s).length) ∧ w.heap.size ≤ A ∧
      w'.ownsRow w.heap.size 9 1 (.slice (some ⟨A, 0, none⟩) (Lib.goFieldsP Fld.blank s).length (Lib.goFieldsP Fld.blank s).length) (Lib.goFieldsP Fld.blank s).length ((Lib.goFieldsP Fld.blank s).map Value.string) ∧ Below w.heap.size w w' :=
  Any.strings_FieldsFunc_runes Sh.l229 19 #[] (enters_of Try.func19 (by kernel_rfl) rfl) Fld.blank s w hs (blank_pays w) (by kernel_rfl) (by kernel_rfl)
theorem fields_small (p : Nat → Bool) (s : ByteArray) : ∀ x ∈ Lib.goFieldsP p s, x.size ≤ s.size := by
  intro x hx
  obtain ⟨y, _, rfl⟩ := List.mem_map.1 hx
  rw [ByteArray.size_extract]
  omega
theorem fieldsB_len : ∀ (l cur : List UInt8), (Fld.fieldsB cur l).length ≤ l.length + 1
  | [], cur => by rw [Fld.fieldsB]; split <;> simp
  | b :: t, cur => by
    have h1 := fieldsB_len t []
    have h2 := fieldsB_len t (cur ++ [b])
    rw [Fld.fieldsB]
    split
    · split <;> simp <;> omega
    · simp; omega
/-- Two results: the options and the error's number. -/
def readV (o : Option Nat) : Value := match o with
  | some n => .tuple #[.agg #[.bool (hasB n 0), .bool (hasB n 1), .bool (hasB n 2), .bool (hasB n 3), .bool (hasB n 4), .bool (hasB n 5), .bool (hasB n 6)], .int .i64 0]
  | none => .tuple #[.agg #[.bool false, .bool false, .bool false, .bool false, .bool false, .bool false, .bool false], .int .i64 10]
theorem or_nums (n : Nat) (h : n < 128) (k : Nat) (hk : k < 128) : bits .or .u8 (n : Int) (k : Int) = ((n ||| k : Nat) : Int) := by
  have : ∀ n : Nat, n < 128 → ∀ k : Nat, k < 128 → bits .or .u8 (n : Int) (k : Int) = ((n ||| k : Nat) : Int) := by decide +kernel
  exact this n h k hk
theorem opt_cells {W : World} {g : Nat} (h : W.heap[g]? = some (.cells #[.bool false, .bool false, .bool false, .bool false, .bool false, .bool false, .bool false] 24)) :
    (W.cell? ⟨g, 0, none⟩ = some (.bool false) ∧ W.cell? ⟨g, 1, none⟩ = some (.bool false) ∧ W.cell? ⟨g, 2, none⟩ = some (.bool false) ∧ W.cell? ⟨g, 3, none⟩ = some (.bool false) ∧ W.cell? ⟨g, 4, none⟩ = some (.bool false) ∧ W.cell? ⟨g, 5, none⟩ = some (.bool false) ∧ W.cell? ⟨g, 6, none⟩ = some (.bool false)) ∧ ∀ i, W.frozen? ⟨g, i, none⟩ = false := by
  refine ⟨⟨?_, ?_, ?_, ?_, ?_, ?_, ?_⟩, fun i => ?_⟩
  all_goals simp [World.cell?, World.frozen?, h]
set_option maxHeartbeats 8000000 in
set_option maxRecDepth 100000 in
theorem read_any (s : ByteArray) (w : World) (hs : s.size ≤ 4294967296) (o : Option Nat) (ho : Fld.readN (Fld.fieldsB [] s.data.toList) 0 = o) :
    Calls Try.prog 9 #[.string s] w fun e w' => e = .returned (readV o) ∧ Below w.heap.size w w' := by
  have HO := Aside0.mk ho
  clear ho
  go_enter Try.func9, Try.ntmps9
  go_wp2_with (go_at_call 18; refine (fields_at s _ hs).mono ?_; rintro e w1 ⟨A, rfl, hA, hown, hb⟩; have HA := Aside0.mk hA; have HW := Aside0.mk hown; have HB := Aside0.mk hb; clear hA hown hb)
  obtain ⟨L, hL⟩ : ∃ L, Lib.goFieldsP Fld.blank s = L := ⟨_, rfl⟩
  rw [hL] at HW ⊢
  have hml : L.map (fun x => x.data.toList) = Fld.fieldsB [] s.data.toList := by rw [← hL]; exact Fld.fields_eq s
  have HS : Aside0 (∀ x ∈ L, x.size ≤ s.size) := ⟨by rw [← hL]; exact fields_small _ s⟩
  have HM : Aside0 (Fld.readN (L.map fun x => x.data.toList) 0 = o) := ⟨by rw [hml]; exact HO.out⟩
  have h0 := blk_new w (.cells #[.bool false, .bool false, .bool false, .bool false, .bool false, .bool false, .bool false] 24)
  have HC : Aside0 (w1.heap[w.heap.size]? = some (.cells #[.bool false, .bool false, .bool false, .bool false, .bool false, .bool false, .bool false] 24)) := ⟨(HB.out.block w.heap.size (by simp)).trans h0⟩
  have HB1 : Aside0 (Below w.heap.size w w1) := ⟨below_step (below_alloc (Below.refl _ _) _) HB.out⟩
  have hLl : L.length ≤ 4294967297 := by
    have h1 := congrArg List.length hml
    have h2 := fieldsB_len s.data.toList []
    rw [List.length_map] at h1
    rw [← Lib.size_eq] at h2
    omega
  clear hml h0 hL HO
  go_loopw [4, 12] (fun v4 v12 w' => ∃ (i n : Nat), i ≤ L.length ∧ v12 = .int .i64 i ∧ v4 = .int .u8 (n : Int) ∧ n < 128 ∧ Aside0 (Fld.readN ((L.drop i).map fun x => x.data.toList) n = o) ∧ Aside0 (Below w1.heap.size w1 w')) (fun _ v12 _ => L.length - (intOf v12).toNat)
  case atStart => exact ⟨0, 0, Nat.zero_le _, rfl, rfl, by omega, HM, ⟨Below.refl _ _⟩⟩
  case round =>
    obtain ⟨i, n, hi, rfl, rfl, hn, HR, HV⟩ := hrel
    have HC2 : Aside0 (wr.heap[w.heap.size]? = some (.cells #[.bool false, .bool false, .bool false, .bool false, .bool false, .bool false, .bool false] 24)) := ⟨(HV.out.block _ (Array.getElem?_eq_some_iff.1 HC.out).1).trans HC.out⟩
    by_cases hlt : i < L.length
    · have k1 : ((i : Nat) : Int) < (L.length : Int) := by omega
      obtain ⟨x, hx⟩ : ∃ x, L[i]? = some x := ⟨_, List.getElem?_eq_getElem hlt⟩
      have hcons : (L.drop i) = x :: L.drop (i + 1) := by
        rw [List.drop_eq_getElem_cons hlt]
        rw [List.getElem?_eq_getElem hlt] at hx
        cases hx
        rfl
      have hr := HR.out
      rw [hcons, List.map_cons, Fld.readN] at hr
      have hc0 : w1.cell? ⟨A, i, none⟩ = some (.string x) := (HW.out.cellAt i (by omega)).trans (by rw [List.getElem?_map, hx]; rfl)
      replace hc0 := (HV.out.cell (World.block_lt_of_cell? w1 _ hc0)).trans hc0
      have hxs : x.size ≤ 140737488355328 := by have := HS.out x (List.mem_of_getElem? hx); omega
      cases hk : Fld.wordN x.data.toList with
      | none =>
        rw [hk] at hr
        have HRo := Aside0.mk hr
        have cw : ∀ W, Calls Try.prog 20 #[.string x] W fun e w' => e = .returned (.tuple #[.int .u8 0, .bool false]) ∧ Below W.heap.size W w' := fun W => by
          have := word_any x W hxs
          rw [hk] at this
          exact this
        have CW := Aside0.mk cw
        clear hr hk hcons hx cw
        go_wp2_with (go_at_call 20; refine (CW.out _).mono ?_; rintro e w' ⟨rfl, hb⟩; have HB3 := Aside0.mk hb; clear hb; obtain ⟨⟨x0, x1, x2, x3, x4, x5, x6⟩, xf⟩ := opt_cells ((HB3.out.block _ (Array.getElem?_eq_some_iff.1 HC2.out).1).trans HC2.out); have y0 := xf 0; have y1 := xf 1; have y2 := xf 2; have y3 := xf 3; have y4 := xf 4; have y5 := xf 5; have y6 := xf 6; clear xf)
        refine bodyPost_ret (v := .tuple #[.agg #[.bool false, .bool false, .bool false, .bool false, .bool false, .bool false, .bool false], .int .i64 10]) (by simp [results, Try.results9, go_sem, x0, x1, x2, x3, x4, x5, x6]) rfl ⟨?_, ?_⟩
        · rw [← HRo.out]; rfl
        · repeat (refine below_set ?_ (Nat.le_refl _))
          exact below_step HB1.out (below_step HV.out HB3.out)
      | some k =>
        rw [hk] at hr
        have hk7 := Fld.wordN_lt hk
        have ho := or_nums n hn k hk7
        have hnk := Fld.or_lt hn hk7
        have HRo := Aside0.mk hr
        have cw : ∀ W, Calls Try.prog 20 #[.string x] W fun e w' => e = .returned (.tuple #[.int .u8 (k : Int), .bool true]) ∧ Below W.heap.size W w' := fun W => by
          have := word_any x W hxs
          rw [hk] at this
          exact this
        have CW := Aside0.mk cw
        clear hr hk hcons hx cw
        go_wp2_with (go_at_call 20; refine (CW.out _).mono ?_; rintro e w' ⟨rfl, hb⟩; have HB3 := Aside0.mk hb; clear hb)
        go_roundw
        case rel => exact ⟨i + 1, n ||| k, by omega, by go_num, rfl, hnk, HRo, ⟨below_step HV.out HB3.out⟩⟩
        case measure => simp [intOf]; omega
    · have k1 : ¬ ((i : Nat) : Int) < (L.length : Int) := by omega
      have hr := HR.out
      rw [List.drop_eq_nil_of_le (by omega)] at hr
      have HRo := Aside0.mk hr
      clear hr
      go_wp2_with (go_at_call 17; refine (options_Of.calls n _ _ _ _ _ _ _ _ rfl).mono ?_; rintro e w' ⟨rfl, hb⟩; have HB3 := Aside0.mk hb; clear hb; obtain ⟨⟨x0, x1, x2, x3, x4, x5, x6⟩, xf⟩ := opt_cells ((HB3.out.block _ (Array.getElem?_eq_some_iff.1 HC2.out).1).trans HC2.out); have y0 := xf 0; have y1 := xf 1; have y2 := xf 2; have y3 := xf 3; have y4 := xf 4; have y5 := xf 5; have y6 := xf 6; clear xf)
      refine bodyPost_ret (v := .tuple #[.agg #[.bool (hasB n 0), .bool (hasB n 1), .bool (hasB n 2), .bool (hasB n 3), .bool (hasB n 4), .bool (hasB n 5), .bool (hasB n 6)], .int .i64 0]) (by simp [results, Try.results9, go_sem, x0, x1, x2, x3, x4, x5, x6]) rfl ⟨?_, ?_⟩
      · rw [← HRo.out]; rfl
      · repeat (refine below_set ?_ (Nat.le_refl _))
        exact below_step HB1.out (below_step HV.out HB3.out)
/-- What options.Read answers. -/
def options_Read.f (s : ByteArray) : Option (Bool × Bool × Bool × Bool × Bool × Bool × Bool × Int) :=
  if s.size ≤ 4294967296 then (match Fld.readN (Fld.fieldsB [] s.data.toList) 0 with
    | some n => some (hasB n 0, hasB n 1, hasB n 2, hasB n 3, hasB n 4, hasB n 5, hasB n 6, 0)
    | none => some (false, false, false, false, false, false, false, 10)) else none
theorem options_Read.calls (s : ByteArray) (r1 r2 r3 r4 r5 r6 r7 : Bool) (r8 : Int) (w : World) (h : options_Read.f s = some (r1, r2, r3, r4, r5, r6, r7, r8)) :
    Calls Try.prog 9 #[.string s] w fun e w' => e = .returned (.tuple #[.agg #[.bool r1, .bool r2, .bool r3, .bool r4, .bool r5, .bool r6, .bool r7], .int .i64 r8]) ∧ Below w.heap.size w w' := by
  unfold options_Read.f at h
  split at h
  · rename_i hs
    have hc := read_any s w hs _ rfl
    split at h
    · rename_i n hn
      rw [hn] at hc
      simp only [Option.some.injEq, Prod.mk.injEq] at h
      obtain ⟨rfl, rfl, rfl, rfl, rfl, rfl, rfl, rfl⟩ := h
      exact hc
    · rename_i hn
      rw [hn] at hc
      simp only [Option.some.injEq, Prod.mk.injEq] at h
      obtain ⟨rfl, rfl, rfl, rfl, rfl, rfl, rfl, rfl⟩ := h
      exact hc
  · cases h
end Go.Proofs.Ythahngbimkhdiaa.All
