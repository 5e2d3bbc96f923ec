/- By hand: the example of layer 6 (awake): it holds. No condition. -/
import Derived.Test.YtifbcboefopioaaTriB
import Derived.Test.YtifbcboefopioaaPxWords
set_option linter.unusedVariables false
namespace Go.Proofs.Ytifbcboefopioaa.Tri
open Go.RowKit Go.Maps Go.Proofs.YtifbcboefopioaaW.PrintWords Go.Proofs.YtifbcboefopioaaW.PrintLast Go.Proofs.YtifbcboefopioaaW.PrintMore Go.Proofs.Ytifbcboefopioaa.Kit
attribute [local go_sem] max2_int min2_int max_two min_two max_three min_three max_four min_four

/-- Texts that stand in a row that has just been made. -/
theorem rows_new (W : World) (rows : List Value) (xs : List Txt) (hl : rows.length = xs.length) (hb : xs.length ≤ 1000) (h : ∀ (j : Nat) (x : Txt), xs[j]? = some x → ∃ A c, rows[j]? = some (Value.slice A x.length c) ∧ x.length ≤ c ∧ Kd.C (Kd.int .u8) W A x.length x) (t : TypeId) :
    Kd.C (Kd.slice 5 (Kd.int .u8)) (W.alloc (.cells rows.toArray t)) (some ⟨W.heap.size, 0, none⟩) xs.length xs := by
  refine ⟨rfl, by omega, fun _ => ⟨_, rfl, fun j x hj => ?_⟩⟩
  obtain ⟨A, c, hr, hc, hC⟩ := h j x hj
  refine ⟨[Value.slice A x.length c], rfl, ⟨A, c, rfl, hc, Kd.C_alloc hC _⟩, fun i u hu => ?_⟩
  obtain rfl : i = 0 := by
    have := (List.getElem?_eq_some_iff.1 hu).1
    simpa using this
  simp at hu
  subst hu
  rw [add_plain, World.cell?_alloc_mark]
  simpa [Kd.slice] using hr
/-- A constant text turned to bytes: what lies behind it. -/
theorem lit_frozen (W : World) (xs : Txt) (inner : List Value) (hi : inner = nums .u8 xs) (hm : xs.length ≤ 1000) (fr : Nat × Nat) : Kd.C (Kd.int .u8) (W.alloc (.cells inner.toArray 5 fr)) (some ⟨W.heap.size, 0, none⟩) xs.length xs := px_reads W 5 xs inner fr hi (by omega)
theorem conv_lit (w : World) (B : Nat) (C : Array Value) (n c : Nat) (hB : w.heap.size = B) : (convert 32 32 (.slice (some ⟨B, 0, none⟩) n c)).run Try.prog (w.alloc (.cells C 5)) = .ok (.slice (some ⟨B, 0, none⟩) n c) (w.alloc (.cells C 5 (C.size, C.size + 1))) := by
  subst hB
  exact Lib.run_convert_bytes_const (P := Try.prog) w 32 5 C n c Try.underlying32 Try.underlying5
theorem three_rows (w : World) : Kd.C (Kd.slice 5 (Kd.int .u8)) ((((w.alloc (.cells #[.int .u8 97, .int .u8 98] 5 (2, 3))).alloc (.cells #[.int .u8 97] 5 (1, 2))).alloc (.cells #[.int .u8 98] 5 (1, 2))).alloc (.cells #[.slice (some ⟨w.heap.size, 0, none⟩) 2 2, .slice (some ⟨w.heap.size + 1, 0, none⟩) 1 1, .slice (some ⟨w.heap.size + 1 + 1, 0, none⟩) 1 1] 32)) (some ⟨w.heap.size + 1 + 1 + 1, 0, none⟩) 3 [[97, 98], [97], [98]] := by
  have e1 : (w.alloc (.cells #[.int .u8 97, .int .u8 98] 5 (2, 3))).heap.size = w.heap.size + 1 := by simp
  have e2 : ((w.alloc (.cells #[.int .u8 97, .int .u8 98] 5 (2, 3))).alloc (.cells #[.int .u8 97] 5 (1, 2))).heap.size = w.heap.size + 1 + 1 := by simp
  have e3 : (((w.alloc (.cells #[.int .u8 97, .int .u8 98] 5 (2, 3))).alloc (.cells #[.int .u8 97] 5 (1, 2))).alloc (.cells #[.int .u8 98] 5 (1, 2))).heap.size = w.heap.size + 1 + 1 + 1 := by simp
  have h1 := lit_frozen w [97, 98] [.int .u8 97, .int .u8 98] rfl (by decide) (2, 3)
  have h2 := lit_frozen (w.alloc (.cells #[.int .u8 97, .int .u8 98] 5 (2, 3))) [97] [.int .u8 97] rfl (by decide) (1, 2)
  have h3 := lit_frozen ((w.alloc (.cells #[.int .u8 97, .int .u8 98] 5 (2, 3))).alloc (.cells #[.int .u8 97] 5 (1, 2))) [98] [.int .u8 98] rfl (by decide) (1, 2)
  rw [e1] at h2
  rw [e2] at h3
  have := rows_new (((w.alloc (.cells #[.int .u8 97, .int .u8 98] 5 (2, 3))).alloc (.cells #[.int .u8 97] 5 (1, 2))).alloc (.cells #[.int .u8 98] 5 (1, 2))) [.slice (some ⟨w.heap.size, 0, none⟩) 2 2, .slice (some ⟨w.heap.size + 1, 0, none⟩) 1 1, .slice (some ⟨w.heap.size + 1 + 1, 0, none⟩) 1 1] [[97, 98], [97], [98]] rfl (by decide) (by
    intro j x hj
    match j, hj with
    | 0, hj => cases hj; exact ⟨_, _, rfl, Nat.le_refl _, Kd.C_alloc (Kd.C_alloc h1 _) _⟩
    | 1, hj => cases hj; exact ⟨_, _, rfl, Nat.le_refl _, Kd.C_alloc h2 _⟩
    | 2, hj => cases hj; exact ⟨_, _, rfl, Nat.le_refl _, h3⟩
    | j + 3, hj => simp at hj) 32
  rw [e3] at this
  exact this
theorem bytes3 : ∀ s ∈ ([[97, 98], [97], [98]] : List Txt), Bytes s := by
  intro s hs x hx
  simp at hs
  rcases hs with rfl | rfl | rfl <;> simp at hx <;> omega
/-- The example's tree. -/
def exP : List Txt := [[], [97], [97, 98], [98]]
theorem exP_good : Good exP := by
  have := pathsL_good [[97, 98], [97], [98]]
  exact this
theorem build3 (w : World) (c : Nat) {A : Option Addr} (hr : Kd.C (Kd.slice 5 (Kd.int .u8)) w A 3 [[97, 98], [97], [98]]) : Calls Try.prog 21 #[.slice A 3 c] w fun e w' => ∃ b, e = .returned (.pointer (some ⟨b, 0, none⟩)) ∧ TreeAt w' w.heap.size b exP (place [[97, 98], [97], [98]]) ∧ Below w.heap.size w w' :=
  build_at w A c [[97, 98], [97], [98]] hr bytes3 (by decide) (by decide)
theorem exS {w : World} {base b : Nat} {wd : Txt → Int} (h : TreeAt w base b exP wd) (i : Nat) (s : Txt) (hi : exP[i]? = some s) (c r : Int) (c0 : 0 ≤ c) (c1 : c ≤ 255) (hr : place exP (s ++ [c]) = r) : Calls Try.prog 31 #[.pointer (some ⟨b, 0, none⟩), .int .i64 i, .int .u8 c] w fun e w' => e = .returned (.int .i64 r) ∧ w' = w := by
  subst hr
  exact step_at h (by decide) i s hi c c0 c1
theorem exF {w : World} {base b : Nat} {wd : Txt → Int} (h : TreeAt w base b exP wd) (A : Option Addr) (c : Nat) (x r : Int) (hr : Kd.C (Kd.int .u8) w A 1 [x]) (c0 : 0 ≤ x) (c1 : x ≤ 255) (hp : place exP [x] = r) : Calls Try.prog 32 #[.pointer (some ⟨b, 0, none⟩), .slice A 1 c] w fun e w' => e = .returned (.int .i64 r) ∧ w' = w := by
  subst hp
  exact find_at exP_good h (by decide) A c [x] hr (by intro y hy; simp at hy; omega) (by simp)
/-- A row of bytes as a text. -/
theorem row_text {w : World} {base : Nat} {v : Value} {xs : Txt} (h : Kd.R (Kd.int .u8) 5 w base (fun _ => True) v xs) : ∃ A c, v = .slice A xs.length c ∧ (convert 32 9 (.slice A xs.length c)).run Try.prog w = .ok (.string (strOfNums xs)) w := by
  obtain ⟨A, c, rfl, hc, hC⟩ := Kd.R_reads h
  exact ⟨A, c, rfl, Kd.C_string (P := Try.prog) Try.underlying32 Try.underlying5 Try.underlying9 hC⟩
theorem row_ab {w : World} {base : Nat} {v : Value} (h : Kd.R (Kd.int .u8) 5 w base (fun _ => True) v [97, 98]) : ∃ A c, v = .slice A 2 c ∧ (convert 32 9 (.slice A 2 c)).run Try.prog w = .ok (.string ⟨#[97, 98]⟩) w := row_text h
set_option maxHeartbeats 4000000 in
theorem awake_at (w : World) : Calls Try.prog 19 #[] w fun e w' => e = .returned (.bool true) ∧ Below w.heap.size w w' := by
  have kc := conv_lit
  have bw := fun (w1 : World) (h : Below (w.heap.size + 1 + 1 + 1 + 1) ((((w.alloc (.cells #[.int .u8 97, .int .u8 98] 5 (2, 3))).alloc (.cells #[.int .u8 97] 5 (1, 2))).alloc (.cells #[.int .u8 98] 5 (1, 2))).alloc (.cells #[.slice (some ⟨w.heap.size, 0, none⟩) 2 2, .slice (some ⟨w.heap.size + 1, 0, none⟩) 1 1, .slice (some ⟨w.heap.size + 1 + 1, 0, none⟩) 1 1] 32)) w1) => (below_alloc (below_alloc (below_alloc (below_alloc (Below.refl w.heap.size w) (.cells #[.int .u8 97, .int .u8 98] 5 (2, 3))) (.cells #[.int .u8 97] 5 (1, 2))) (.cells #[.int .u8 98] 5 (1, 2))) (.cells #[.slice (some ⟨w.heap.size, 0, none⟩) 2 2, .slice (some ⟨w.heap.size + 1, 0, none⟩) 1 1, .slice (some ⟨w.heap.size + 1 + 1, 0, none⟩) 1 1] 32)).trans (h.mono (by omega))
  have BW := Aside0.mk bw
  clear bw
  go_enter Try.func19, Try.ntmps19
  go_upto_region 2 with (go_at_call 21; refine (build3 _ _ (three_rows w)).mono ?_; rintro e w1 ⟨b, rfl, ht, hb⟩; have HT := Aside0.mk ht; have HB := Aside0.mk (BW.out _ (by simpa using hb)); clear ht hb)
  obtain ⟨base, hbase⟩ : ∃ n, ((((w.alloc (.cells #[.int .u8 97, .int .u8 98] 5 (2, 3))).alloc (.cells #[.int .u8 97] 5 (1, 2))).alloc (.cells #[.int .u8 98] 5 (1, 2))).alloc (.cells #[.slice (some ⟨w.heap.size, 0, none⟩) 2 2, .slice (some ⟨w.heap.size + 1, 0, none⟩) 1 1, .slice (some ⟨w.heap.size + 1 + 1, 0, none⟩) 1 1] 32)).heap.size = n := ⟨_, rfl⟩
  rw [hbase] at HT
  clear hbase
  have N1 := Aside0.mk (nodes_at HT.out)
  have S1 := Aside0.mk (exS HT.out 0 [] rfl 97 1 (by decide) (by decide) (by decide))
  have S2 := Aside0.mk (exS HT.out 1 [97] rfl 98 2 (by decide) (by decide) (by decide))
  have tok1 : True := trivial
  have tok2 : True := trivial
  have tok3 : True := trivial
  have tok4 : True := trivial
  go_wp2_with (first
    | (go_at_call 23; (refine N1.out.mono ?_); rintro e w' ⟨rfl, hw⟩; subst hw)
    | (go_at_call 31; have _t := tok1; (refine S1.out.mono ?_); rintro e w' ⟨rfl, hw⟩; subst hw; clear tok1)
    | (go_at_call 31; have _t := tok2; (refine S2.out.mono ?_); rintro e w' ⟨rfl, hw⟩; subst hw; clear tok2)
    | (go_at_call 32; have _t := tok3; (refine (exF (HT.out.below (below_alloc (Below.refl _ _) _)) _ _ 98 3 (lit_frozen _ [98] [.int .u8 98] rfl (by decide) _) (by decide) (by decide) (by decide)).mono ?_); rintro e w2 ⟨rfl, hw⟩; have HT2 : Aside0 (TreeAt w2 base b exP (place [[97, 98], [97], [98]])) := ⟨hw ▸ HT.out.below (below_alloc (Below.refl _ _) _)⟩; have HB2 : Aside0 (Below w.heap.size w w2) := ⟨hw ▸ below_alloc HB.out _⟩; clear hw tok3)
    | (go_at_call 32; have _t := tok4; (refine (exF (HT2.out.below (below_alloc (Below.refl _ _) _)) _ _ 99 (-1) (lit_frozen _ [99] [.int .u8 99] rfl (by decide) _) (by decide) (by decide) (by decide)).mono ?_); rintro e w3 ⟨rfl, hw⟩; have HT3 : Aside0 (TreeAt w3 base b exP (place [[97, 98], [97], [98]])) := ⟨hw ▸ HT2.out.below (below_alloc (Below.refl _ _) _)⟩; have HB3 : Aside0 (Below w.heap.size w w3) := ⟨hw ▸ below_alloc HB2.out _⟩; clear hw tok4)
    | (go_at_call 28; (refine (word_at HT3.out 1 [97] rfl).mono ?_); rintro e w4 ⟨rfl, hw⟩; have HT4 : Aside0 (TreeAt w4 base b exP (place [[97, 98], [97], [98]])) := ⟨hw ▸ HT3.out⟩; have HB4 : Aside0 (Below w.heap.size w w4) := ⟨hw ▸ HB3.out⟩; rw [show place [[97, 98], [97], [98]] [97] = 1 by decide]; clear hw)
    | (go_at_call 27; (refine (parent_at HT4.out 2 [97, 98] rfl).mono ?_); rintro e w5 ⟨rfl, hw⟩; have HT5 : Aside0 (TreeAt w5 base b exP (place [[97, 98], [97], [98]])) := ⟨hw ▸ HT4.out⟩; have HB5 : Aside0 (Below w.heap.size w w5) := ⟨hw ▸ HB4.out⟩; rw [show par exP [97, 98] = 1 by decide]; clear hw)
    | (go_at_call 26; (refine (depth_at HT5.out 2 [97, 98] rfl).mono ?_); rintro e w6 ⟨rfl, hw⟩; have HT6 : Aside0 (TreeAt w6 base b exP (place [[97, 98], [97], [98]])) := ⟨hw ▸ HT5.out⟩; have HB6 : Aside0 (Below w.heap.size w w6) := ⟨hw ▸ HB5.out⟩; clear hw)
    | (go_at_call 25; (refine (path_at exP_good HT6.out (by decide) 2 [97, 98] rfl (by decide)).mono ?_); rintro e w7 ⟨v, rfl, ho, hb⟩; obtain ⟨A7, c7, rfl, hv7⟩ := row_ab ho; have HT7 := Aside0.mk (HT6.out.below hb); have HB7 := Aside0.mk (below_step HB6.out hb); clear ho hb)
    | (go_at_call 29; (refine (kids_at HT7.out (by decide) 0 [] rfl).mono ?_); rintro e w8 ⟨v, rfl, ho, hb⟩; rw [show kidsN exP [] 256 = [97, 98] by decide +kernel] at ho; obtain ⟨A8, c8, rfl, hv8⟩ := row_ab ho; have HB8 := Aside0.mk (below_step HB7.out hb); clear ho hb))
  go_ret
  exact ⟨rfl, HB8.out⟩
end Go.Proofs.Ytifbcboefopioaa.Tri
