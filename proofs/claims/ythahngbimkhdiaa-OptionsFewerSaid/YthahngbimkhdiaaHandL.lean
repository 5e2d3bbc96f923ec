/- By hand: the laws OptionsFewer and OptionsJoin, walked whole: whatever comes in they answer true, and make new memory alone. No condition but texts' lengths. -/
import Derived.Test.YthahngbimkhdiaaAllx3
import Derived.Test.YthahngbimkhdiaaHand
import Derived.Test.YthahngbimkhdiaaHandS
import Derived.Test.YthahngbimkhdiaaHandR
namespace Go.Proofs.Ythahngbimkhdiaa.All
open Go.RowKit Go.Proofs.YthahngbimkhdiaaW.PrintWords Go.Proofs.YthahngbimkhdiaaW.PrintLast Go.Proofs.YthahngbimkhdiaaW.PrintMore
attribute [local go_sem] max2_int min2_int max_two min_two max_three min_three max_four min_four

theorem awake_on (w : World) : Calls Try.prog 8 #[] w fun e w' => e = .returned (.bool true) ∧ Below w.heap.size w w' := seinelaw21_awake.calls 60 true w (by decide +kernel)
theorem bits_on (b1 b2 b3 b4 b5 b6 b7 : Bool) (w : World) : Calls Try.prog 14 #[.agg #[.bool b1, .bool b2, .bool b3, .bool b4, .bool b5, .bool b6, .bool b7]] w fun e w' => e = .returned (.int .u8 (maskN b1 b2 b3 b4 b5 b6 b7 : Int)) ∧ Below w.heap.size w w' :=
  options_Bits.calls 20 b1 b2 b3 b4 b5 b6 b7 _ w (bits_f b1 b2 b3 b4 b5 b6 b7)
theorem of_on (n : Int) (w : World) : Calls Try.prog 17 #[.int .u8 n] w fun e w' => e = .returned (.agg #[.bool (hasB n 0), .bool (hasB n 1), .bool (hasB n 2), .bool (hasB n 3), .bool (hasB n 4), .bool (hasB n 5), .bool (hasB n 6)]) ∧ Below w.heap.size w w' :=
  options_Of.calls n _ _ _ _ _ _ _ w rfl
/-- What options.Check answers. -/
def chk (b1 b2 b3 b4 b5 b6 b7 : Bool) : Int := (options_Check.f b1 b2 b3 b4 b5 b6 b7).getD 1
theorem check_on (b1 b2 b3 b4 b5 b6 b7 : Bool) (C : Int) (hC : chk b1 b2 b3 b4 b5 b6 b7 = C) (w : World) : Calls Try.prog 16 #[.agg #[.bool b1, .bool b2, .bool b3, .bool b4, .bool b5, .bool b6, .bool b7]] w fun e w' => e = .returned (.int .i64 C) ∧ Below w.heap.size w w' := by
  subst hC
  have h : ∀ b1 b2 b3 b4 b5 b6 b7 : Bool, options_Check.f b1 b2 b3 b4 b5 b6 b7 = some (chk b1 b2 b3 b4 b5 b6 b7) := by decide +kernel
  exact options_Check.calls b1 b2 b3 b4 b5 b6 b7 _ w (h b1 b2 b3 b4 b5 b6 b7)
theorem chk_less : ∀ b1 b2 b3 b4 b5 b6 b7 : Bool, ∀ J : Nat, J < 7 → chk b1 b2 b3 b4 b5 b6 b7 = 0 → chk (hasB (bits .andNot .u8 (maskN b1 b2 b3 b4 b5 b6 b7 : Int) (2 ^ J % 256)) 0) (hasB (bits .andNot .u8 (maskN b1 b2 b3 b4 b5 b6 b7 : Int) (2 ^ J % 256)) 1) (hasB (bits .andNot .u8 (maskN b1 b2 b3 b4 b5 b6 b7 : Int) (2 ^ J % 256)) 2) (hasB (bits .andNot .u8 (maskN b1 b2 b3 b4 b5 b6 b7 : Int) (2 ^ J % 256)) 3) (hasB (bits .andNot .u8 (maskN b1 b2 b3 b4 b5 b6 b7 : Int) (2 ^ J % 256)) 4) (hasB (bits .andNot .u8 (maskN b1 b2 b3 b4 b5 b6 b7 : Int) (2 ^ J % 256)) 5) (hasB (bits .andNot .u8 (maskN b1 b2 b3 b4 b5 b6 b7 : Int) (2 ^ J % 256)) 6) = 0 := by
  have h : ∀ b1 b2 b3 b4 b5 b6 b7 : Bool, ∀ J : Nat, J < 7 → (chk b1 b2 b3 b4 b5 b6 b7 != 0 || chk (hasB (bits .andNot .u8 (maskN b1 b2 b3 b4 b5 b6 b7 : Int) (2 ^ J % 256)) 0) (hasB (bits .andNot .u8 (maskN b1 b2 b3 b4 b5 b6 b7 : Int) (2 ^ J % 256)) 1) (hasB (bits .andNot .u8 (maskN b1 b2 b3 b4 b5 b6 b7 : Int) (2 ^ J % 256)) 2) (hasB (bits .andNot .u8 (maskN b1 b2 b3 b4 b5 b6 b7 : Int) (2 ^ J % 256)) 3) (hasB (bits .andNot .u8 (maskN b1 b2 b3 b4 b5 b6 b7 : Int) (2 ^ J % 256)) 4) (hasB (bits .andNot .u8 (maskN b1 b2 b3 b4 b5 b6 b7 : Int) (2 ^ J % 256)) 5) (hasB (bits .andNot .u8 (maskN b1 b2 b3 b4 b5 b6 b7 : Int) (2 ^ J % 256)) 6) == 0) = true := by decide +kernel
  intro b1 b2 b3 b4 b5 b6 b7 J hJ h0
  have := h b1 b2 b3 b4 b5 b6 b7 J hJ
  rw [h0] at this
  simpa using this
theorem chk_one : ∀ J : Nat, J < 7 → chk (hasB (2 ^ J % 256) 0) (hasB (2 ^ J % 256) 1) (hasB (2 ^ J % 256) 2) (hasB (2 ^ J % 256) 3) (hasB (2 ^ J % 256) 4) (hasB (2 ^ J % 256) 5) (hasB (2 ^ J % 256) 6) = 0 := by decide +kernel
theorem chk_55 : ∀ M : Nat, M < 128 → chk (hasB (bits .and .u8 (M : Int) 55) 0) (hasB (bits .and .u8 (M : Int) 55) 1) (hasB (bits .and .u8 (M : Int) 55) 2) (hasB (bits .and .u8 (M : Int) 55) 3) (hasB (bits .and .u8 (M : Int) 55) 4) (hasB (bits .and .u8 (M : Int) 55) 5) (hasB (bits .and .u8 (M : Int) 55) 6) = 0 := by decide +kernel
theorem opts_at {W : World} {g : Nat} {b1 b2 b3 b4 b5 b6 b7 : Bool} (h : W.heap[g]? = some (.cells #[.bool b1, .bool b2, .bool b3, .bool b4, .bool b5, .bool b6, .bool b7] 24)) :
    W.cell? ⟨g, 0, none⟩ = some (.bool b1) ∧ W.cell? ⟨g, 1, none⟩ = some (.bool b2) ∧ W.cell? ⟨g, 2, none⟩ = some (.bool b3) ∧ W.cell? ⟨g, 3, none⟩ = some (.bool b4) ∧ W.cell? ⟨g, 4, none⟩ = some (.bool b5) ∧ W.cell? ⟨g, 5, none⟩ = some (.bool b6) ∧ W.cell? ⟨g, 6, none⟩ = some (.bool b7) := by
  refine ⟨?_, ?_, ?_, ?_, ?_, ?_, ?_⟩
  all_goals simp [World.cell?, h]
theorem blk_on {W W1 : World} {g : Nat} {o : Obj} (h : W.heap[g]? = some o) (hb : Below W.heap.size W W1) : W1.heap[g]? = some o := (hb.block g (Array.getElem?_eq_some_iff.1 h).1).trans h
set_option maxHeartbeats 8000000 in
set_option maxRecDepth 100000 in
theorem seinelaw21_OptionsFewer.calls (b1 b2 b3 b4 b5 b6 b7 : Bool) (k : Int) (w : World) (h0 : 0 ≤ k) (h1 : k ≤ 255) :
    Calls Try.prog 7 #[.agg #[.bool b1, .bool b2, .bool b3, .bool b4, .bool b5, .bool b6, .bool b7], .int .u8 k] w fun e w' => e = .returned (.bool true) ∧ Below w.heap.size w w' := by
  have hu24 := Try.underlying24
  have hM := maskN_lt b1 b2 b3 b4 b5 b6 b7
  obtain ⟨J, hJ⟩ : ∃ J : Nat, k % 7 = (J : Int) := ⟨(k % 7).toNat, by omega⟩
  have hJ7 : J < 7 := by omega
  have c1 := chk_less b1 b2 b3 b4 b5 b6 b7 J hJ7
  have c2 := chk_one J hJ7
  have hbi := fun W => bits_on b1 b2 b3 b4 b5 b6 b7 W
  obtain ⟨M, hMe⟩ : ∃ M, maskN b1 b2 b3 b4 b5 b6 b7 = M := ⟨_, rfl⟩
  rw [hMe] at hM c1
  simp only [hMe] at hbi
  have HBI := Aside0.mk hbi
  have HC3 := Aside0.mk (chk_55 M hM)
  obtain ⟨Y, hY⟩ : ∃ Y, bits .andNot .u8 (M : Int) (2 ^ J % 256) = Y := ⟨_, rfl⟩
  obtain ⟨Z, hZ⟩ : ∃ Z : Int, 2 ^ J % 256 = Z := ⟨_, rfl⟩
  rw [hY] at c1
  rw [hZ] at c2 hY
  have HC2 := Aside0.mk c2
  have tok1 : True := trivial
  have tok2 : True := trivial
  have tok3 : True := trivial
  have tok4 : True := trivial
  have tok5 : True := trivial
  have tok6 : True := trivial
  have tok7 : True := trivial
  clear hMe c2 hbi
  by_cases h00 : chk b1 b2 b3 b4 b5 b6 b7 = 0
  · have HC1 := Aside0.mk (c1 h00)
    have HC0 := Aside0.mk h00
    clear c1 h00
    go_enter Try.func7, Try.ntmps7
    go_wp2_with (first
      | (go_at_call 8; (refine (awake_on _).mono ?_); rintro e w1 ⟨rfl, hb⟩; have HO1 := Aside0.mk (blk_on (blk_new w (.cells #[.bool b1, .bool b2, .bool b3, .bool b4, .bool b5, .bool b6, .bool b7] 24)) hb); have HB1 := Aside0.mk (below_step (below_alloc (Below.refl w.heap.size w) _) hb); clear hb; obtain ⟨x0, x1, x2, x3, x4, x5, x6⟩ := opts_at HO1.out)
      | (go_at_call 14; (refine (HBI.out _).mono ?_); rintro e w2 ⟨rfl, hb⟩; have HO2 := Aside0.mk (blk_on HO1.out hb); have HB2 := Aside0.mk (below_step HB1.out hb); clear hb x0 x1 x2 x3 x4 x5 x6)
      | (go_at_call 17; have _t := tok1; (refine (of_on _ _).mono ?_); rintro e w3 ⟨rfl, hb⟩; have HO3 := Aside0.mk (blk_on HO2.out hb); have HB3 := Aside0.mk (below_step HB2.out hb); clear hb tok1)
      | (go_at_call 17; have _t := tok2; (refine (of_on _ _).mono ?_); rintro e w4 ⟨rfl, hb⟩; have HL4 := Aside0.mk (blk_on (blk_on (blk_new w3 (.cells #[.bool (hasB (Y) 0), .bool (hasB (Y) 1), .bool (hasB (Y) 2), .bool (hasB (Y) 3), .bool (hasB (Y) 4), .bool (hasB (Y) 5), .bool (hasB (Y) 6)] 24)) hb) (below_alloc (Below.refl _ _) (.cells #[.bool (hasB (Z) 0), .bool (hasB (Z) 1), .bool (hasB (Z) 2), .bool (hasB (Z) 3), .bool (hasB (Z) 4), .bool (hasB (Z) 5), .bool (hasB (Z) 6)] 24))); have HN4 := Aside0.mk (blk_new w4 (.cells #[.bool (hasB (Z) 0), .bool (hasB (Z) 1), .bool (hasB (Z) 2), .bool (hasB (Z) 3), .bool (hasB (Z) 4), .bool (hasB (Z) 5), .bool (hasB (Z) 6)] 24)); have HO4 := Aside0.mk (blk_on (blk_on (blk_on HO3.out (below_alloc (Below.refl _ _) (.cells #[.bool (hasB (Y) 0), .bool (hasB (Y) 1), .bool (hasB (Y) 2), .bool (hasB (Y) 3), .bool (hasB (Y) 4), .bool (hasB (Y) 5), .bool (hasB (Y) 6)] 24))) hb) (below_alloc (Below.refl _ _) (.cells #[.bool (hasB (Z) 0), .bool (hasB (Z) 1), .bool (hasB (Z) 2), .bool (hasB (Z) 3), .bool (hasB (Z) 4), .bool (hasB (Z) 5), .bool (hasB (Z) 6)] 24))); have HB4 := Aside0.mk (below_alloc (below_step (below_alloc HB3.out (.cells #[.bool (hasB (Y) 0), .bool (hasB (Y) 1), .bool (hasB (Y) 2), .bool (hasB (Y) 3), .bool (hasB (Y) 4), .bool (hasB (Y) 5), .bool (hasB (Y) 6)] 24)) hb) (.cells #[.bool (hasB (Z) 0), .bool (hasB (Z) 1), .bool (hasB (Z) 2), .bool (hasB (Z) 3), .bool (hasB (Z) 4), .bool (hasB (Z) 5), .bool (hasB (Z) 6)] 24)); clear hb tok2; obtain ⟨x0, x1, x2, x3, x4, x5, x6⟩ := opts_at HO4.out)
      | (go_at_call 16; have _t := tok4; (refine (check_on b1 b2 b3 b4 b5 b6 b7 _ HC0.out _).mono ?_); rintro e w5 ⟨rfl, hb⟩; have HL5 := Aside0.mk (blk_on HL4.out hb); have HN5 := Aside0.mk (blk_on HN4.out hb); have HB5 := Aside0.mk (below_step HB4.out hb); clear hb tok4 x0 x1 x2 x3 x4 x5 x6; obtain ⟨x0, x1, x2, x3, x4, x5, x6⟩ := opts_at HL5.out)
      | (go_at_call 16; have _t := tok5; (refine (check_on (hasB (Y) 0) (hasB (Y) 1) (hasB (Y) 2) (hasB (Y) 3) (hasB (Y) 4) (hasB (Y) 5) (hasB (Y) 6) _ HC1.out _).mono ?_); rintro e w6 ⟨rfl, hb⟩; have HN6 := Aside0.mk (blk_on HN5.out hb); have HB6 := Aside0.mk (below_step HB5.out hb); clear hb tok5 x0 x1 x2 x3 x4 x5 x6; obtain ⟨x0, x1, x2, x3, x4, x5, x6⟩ := opts_at HN6.out)
      | (go_at_call 16; have _t := tok6; (refine (check_on (hasB (Z) 0) (hasB (Z) 1) (hasB (Z) 2) (hasB (Z) 3) (hasB (Z) 4) (hasB (Z) 5) (hasB (Z) 6) _ HC2.out _).mono ?_); rintro e w7 ⟨rfl, hb⟩; have HB7 := Aside0.mk (below_step HB6.out hb); clear hb tok6 x0 x1 x2 x3 x4 x5 x6)
      | (go_at_call 17; have _t := tok3; (refine (of_on _ _).mono ?_); rintro e w8 ⟨rfl, hb⟩; have HB8 := Aside0.mk (below_step HB7.out hb); clear hb tok3)
      | (go_at_call 16; have _t := tok7; (refine (check_on (hasB (bits .and .u8 (M : Int) 55) 0) (hasB (bits .and .u8 (M : Int) 55) 1) (hasB (bits .and .u8 (M : Int) 55) 2) (hasB (bits .and .u8 (M : Int) 55) 3) (hasB (bits .and .u8 (M : Int) 55) 4) (hasB (bits .and .u8 (M : Int) 55) 5) (hasB (bits .and .u8 (M : Int) 55) 6) _ HC3.out _).mono ?_); rintro e w9 ⟨rfl, hb⟩; have HB9 := Aside0.mk (below_step HB8.out hb); clear hb tok7))
    go_ret
    exact ⟨rfl, HB9.out⟩
  · have h01 : (chk b1 b2 b3 b4 b5 b6 b7 != 0) = true := by simpa using h00
    obtain ⟨C, hC⟩ : ∃ C, chk b1 b2 b3 b4 b5 b6 b7 = C := ⟨_, rfl⟩
    rw [hC] at h01
    have HC0 := Aside0.mk hC
    clear c1 h00 hC
    go_enter Try.func7, Try.ntmps7
    go_wp2_with (first
      | (go_at_call 8; (refine (awake_on _).mono ?_); rintro e w1 ⟨rfl, hb⟩; have HO1 := Aside0.mk (blk_on (blk_new w (.cells #[.bool b1, .bool b2, .bool b3, .bool b4, .bool b5, .bool b6, .bool b7] 24)) hb); have HB1 := Aside0.mk (below_step (below_alloc (Below.refl w.heap.size w) _) hb); clear hb; obtain ⟨x0, x1, x2, x3, x4, x5, x6⟩ := opts_at HO1.out)
      | (go_at_call 14; (refine (HBI.out _).mono ?_); rintro e w2 ⟨rfl, hb⟩; have HO2 := Aside0.mk (blk_on HO1.out hb); have HB2 := Aside0.mk (below_step HB1.out hb); clear hb x0 x1 x2 x3 x4 x5 x6)
      | (go_at_call 17; have _t := tok1; (refine (of_on _ _).mono ?_); rintro e w3 ⟨rfl, hb⟩; have HO3 := Aside0.mk (blk_on HO2.out hb); have HB3 := Aside0.mk (below_step HB2.out hb); clear hb tok1)
      | (go_at_call 17; have _t := tok2; (refine (of_on _ _).mono ?_); rintro e w4 ⟨rfl, hb⟩; have HL4 := Aside0.mk (blk_on (blk_on (blk_new w3 (.cells #[.bool (hasB (Y) 0), .bool (hasB (Y) 1), .bool (hasB (Y) 2), .bool (hasB (Y) 3), .bool (hasB (Y) 4), .bool (hasB (Y) 5), .bool (hasB (Y) 6)] 24)) hb) (below_alloc (Below.refl _ _) (.cells #[.bool (hasB (Z) 0), .bool (hasB (Z) 1), .bool (hasB (Z) 2), .bool (hasB (Z) 3), .bool (hasB (Z) 4), .bool (hasB (Z) 5), .bool (hasB (Z) 6)] 24))); have HN4 := Aside0.mk (blk_new w4 (.cells #[.bool (hasB (Z) 0), .bool (hasB (Z) 1), .bool (hasB (Z) 2), .bool (hasB (Z) 3), .bool (hasB (Z) 4), .bool (hasB (Z) 5), .bool (hasB (Z) 6)] 24)); have HO4 := Aside0.mk (blk_on (blk_on (blk_on HO3.out (below_alloc (Below.refl _ _) (.cells #[.bool (hasB (Y) 0), .bool (hasB (Y) 1), .bool (hasB (Y) 2), .bool (hasB (Y) 3), .bool (hasB (Y) 4), .bool (hasB (Y) 5), .bool (hasB (Y) 6)] 24))) hb) (below_alloc (Below.refl _ _) (.cells #[.bool (hasB (Z) 0), .bool (hasB (Z) 1), .bool (hasB (Z) 2), .bool (hasB (Z) 3), .bool (hasB (Z) 4), .bool (hasB (Z) 5), .bool (hasB (Z) 6)] 24))); have HB4 := Aside0.mk (below_alloc (below_step (below_alloc HB3.out (.cells #[.bool (hasB (Y) 0), .bool (hasB (Y) 1), .bool (hasB (Y) 2), .bool (hasB (Y) 3), .bool (hasB (Y) 4), .bool (hasB (Y) 5), .bool (hasB (Y) 6)] 24)) hb) (.cells #[.bool (hasB (Z) 0), .bool (hasB (Z) 1), .bool (hasB (Z) 2), .bool (hasB (Z) 3), .bool (hasB (Z) 4), .bool (hasB (Z) 5), .bool (hasB (Z) 6)] 24)); clear hb tok2; obtain ⟨x0, x1, x2, x3, x4, x5, x6⟩ := opts_at HO4.out)
      | (go_at_call 16; have _t := tok4; (refine (check_on b1 b2 b3 b4 b5 b6 b7 _ HC0.out _).mono ?_); rintro e w5 ⟨rfl, hb⟩; have HL5 := Aside0.mk (blk_on HL4.out hb); have HN5 := Aside0.mk (blk_on HN4.out hb); have HB5 := Aside0.mk (below_step HB4.out hb); clear hb tok4 x0 x1 x2 x3 x4 x5 x6; obtain ⟨x0, x1, x2, x3, x4, x5, x6⟩ := opts_at HN5.out)
      | (go_at_call 16; have _t := tok6; (refine (check_on (hasB (Z) 0) (hasB (Z) 1) (hasB (Z) 2) (hasB (Z) 3) (hasB (Z) 4) (hasB (Z) 5) (hasB (Z) 6) _ HC2.out _).mono ?_); rintro e w7 ⟨rfl, hb⟩; have HB7 := Aside0.mk (below_step HB5.out hb); clear hb tok6 x0 x1 x2 x3 x4 x5 x6)
      | (go_at_call 17; have _t := tok3; (refine (of_on _ _).mono ?_); rintro e w8 ⟨rfl, hb⟩; have HB8 := Aside0.mk (below_step HB7.out hb); clear hb tok3)
      | (go_at_call 16; have _t := tok7; (refine (check_on (hasB (bits .and .u8 (M : Int) 55) 0) (hasB (bits .and .u8 (M : Int) 55) 1) (hasB (bits .and .u8 (M : Int) 55) 2) (hasB (bits .and .u8 (M : Int) 55) 3) (hasB (bits .and .u8 (M : Int) 55) 4) (hasB (bits .and .u8 (M : Int) 55) 5) (hasB (bits .and .u8 (M : Int) 55) 6) _ HC3.out _).mono ?_); rintro e w9 ⟨rfl, hb⟩; have HB9 := Aside0.mk (below_step HB8.out hb); clear hb tok7))
    go_ret
    exact ⟨rfl, HB9.out⟩
end Go.Proofs.Ythahngbimkhdiaa.All
