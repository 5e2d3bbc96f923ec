/- By hand: the contracts of suffix.Less and suffix.Max (order by a closure in a field): each answers what a plain function says, and makes new memory alone. No condition. -/
import Derived.Test.YtkoahbhiffahdaaAllx0
import Derived.Laws.EntriesVeiled
namespace Go.Proofs.Ytkoahbhiffahdaa.All
open Go.RowKit Go.Proofs.YtkoahbhiffahdaaW.PrintWords Go.Proofs.YtkoahbhiffahdaaW.PrintLast Go.Proofs.YtkoahbhiffahdaaW.PrintMore
attribute [local go_sem] max2_int min2_int max_two min_two max_three min_three max_four min_four

/-- The order of texts: at the first unlike bytes (turned: by the turned order), else by length. -/
def lessL (t : Bool) : List Int → List Int → Bool
  | x :: a, y :: b => if x = y then lessL t a b else (decide (x < y) != t)
  | [], _ :: _ => true
  | _, [] => false

abbrev ordW (w : World) (t : Bool) : World := (w.alloc (.cells #[.bool t] 4)).alloc (.cells #[.func (.func 33) #[] #[.pointer (some ⟨w.heap.size, 0, none⟩)]] 52)
theorem suffix_by.calls (t : Bool) (w : World) :
    Calls Try.prog 31 #[.bool t] w fun e w' => e = .returned (.agg #[.func (.func 33) #[] #[.pointer (some ⟨w.heap.size, 0, none⟩)]]) ∧ ordW w t = w' := by
  go_enter Try.func31, Try.ntmps31
  go_wp2
  exact bodyPost_ret (v := .agg #[.func (.func 33) #[] #[.pointer (some ⟨w.heap.size, 0, none⟩)]]) (by simp [results, Try.results31, go_sem]) rfl ⟨rfl, rfl⟩

/-- Is a byte ahead of another, by the order or the turned one. -/
def ltT (t : Bool) (x y : Int) : Bool := !(x == y) && (decide (x < y) != t)
theorem suffix_by1.calls (x y : Int) (t : Bool) (g : Nat) (w : World) (hc : w.cell? ⟨g, 0, none⟩ = some (.bool t)) :
    Calls Try.prog 33 #[.int .u8 x, .int .u8 y, .pointer (some ⟨g, 0, none⟩)] w fun e w' => e = .returned (.bool (ltT t x y)) ∧ Drawn0 w w' := by
  unfold ltT
  by_cases h : x = y
  · have h1 : (x != y) = false := by simp [h]
    have h2 : (x == y) = true := by simp [h]
    go_enter Try.func33, Try.ntmps33
    go_wp2
    go_ret
    exact ⟨by simp [h2], Drawn0.refl _⟩
  · have h1 : (x != y) = true := by simp [h]
    have h2 : (x == y) = false := by simp [h]
    go_enter Try.func33, Try.ntmps33
    go_wp2
    go_ret
    exact ⟨by cases t <;> simp [h2], Drawn0.refl _⟩

theorem below_drawn {w W w' : World} (h : Below w.heap.size w W) (hd : Drawn0 W w') : Below w.heap.size w w' := by
  obtain ⟨n, rfl⟩ := hd
  exact pw_below_drewN h n
theorem lessL_step {t : Bool} {a b : List Int} {i : Nat} (ha : i < a.length) (hb : i < b.length) (h : rd a i = rd b i) : lessL t (a.drop i) (b.drop i) = lessL t (a.drop (i + 1)) (b.drop (i + 1)) := by
  have h' : a[i] = b[i] := by simpa [rd, List.getD_eq_getElem?_getD, ha, hb] using h
  rw [List.drop_eq_getElem_cons ha, List.drop_eq_getElem_cons hb]
  simp [lessL, h']
theorem lessL_stop {t : Bool} {a b : List Int} {i : Nat} (ha : i < a.length) (hb : i < b.length) (h : ¬ rd a i = rd b i) : lessL t (a.drop i) (b.drop i) = ltT t (rd a i) (rd b i) := by
  unfold ltT
  have ea : rd a i = a[i] := by simp [rd, List.getD_eq_getElem?_getD, ha]
  have eb : rd b i = b[i] := by simp [rd, List.getD_eq_getElem?_getD, hb]
  rw [ea, eb] at h ⊢
  rw [List.drop_eq_getElem_cons ha, List.drop_eq_getElem_cons hb]
  simp [lessL, h]
theorem lessL_end {t : Bool} {a b : List Int} {i : Nat} (h : a.length ≤ i ∨ b.length ≤ i) (hi : i ≤ a.length) (hj : i ≤ b.length) : lessL t (a.drop i) (b.drop i) = decide (a.length < b.length) := by
  rcases h with h | h
  · obtain rfl : i = a.length := by omega
    rw [List.drop_length]
    by_cases hb : b.length ≤ a.length
    · rw [List.drop_of_length_le hb]
      have : ¬ (a.length < b.length) := by omega
      simp [lessL]; omega
    · have : (b.drop a.length).length ≠ 0 := by simp; omega
      match hc : b.drop a.length with
      | [] => simp [hc] at this
      | _ :: _ => simp [lessL]; omega
  · rw [List.drop_of_length_le h]
    have hl : lessL t (a.drop i) [] = false := by cases a.drop i <;> rfl
    rw [hl]
    have : ¬ (a.length < b.length) := by omega
    simp; omega

set_option maxHeartbeats 8000000 in
set_option maxRecDepth 100000 in
theorem suffix_Less.calls0 (A0 : Option Addr) (c0 : Nat) (l0 : List Int) (A1 : Option Addr) (c1 : Nat) (l1 : List Int) (a2 : Bool) (w : World) (hr0 : Kd.C (Kd.int .u8) w A0 l0.length l0) (hc0 : l0.length ≤ c0) (hr1 : Kd.C (Kd.int .u8) w A1 l1.length l1) (hc1 : l1.length ≤ c1) :
    Calls Try.prog 27 #[.slice A0 l0.length c0, .slice A1 l1.length c1, .bool a2] w fun e w' => e = .returned (.bool (lessL a2 l0 l1)) ∧ Below w.heap.size w w' := by
  have HR0 := Aside0.mk hr0
  have HC0 := Aside0.mk hc0
  have n0 : l0.length ≤ 9223372036854775807 := hr0.2.1
  have n1 : l1.length ≤ 9223372036854775807 := hr1.2.1
  clear hr0 hc0
  have HR1 := Aside0.mk hr1
  have HC1 := Aside0.mk hc1
  clear hr1 hc1
  obtain ⟨m, hm⟩ : ∃ m : Nat, m = if l1.length < l0.length then l1.length else l0.length := ⟨_, rfl⟩
  have HM := Aside0.mk hm
  have hmi : ((if l1.length < l0.length then (Value.int .i64 (l1.length : Int)) else (Value.int .i64 (l0.length : Int)))) = Value.int .i64 (m : Int) := by rw [hm]; split <;> rfl
  clear hm
  by_cases hmin : l1.length < l0.length
  all_goals
    go_enter Try.func27, Try.ntmps27
    go_wp2_with (go_at_call 31; refine (suffix_by.calls a2 w).mono ?_; rintro e w' ⟨rfl, rfl⟩)
    obtain ⟨W1, hW1⟩ : ∃ W1 : World, W1 = (ordW w a2).alloc (Obj.cells #[Value.func (Fn.func 33) #[] #[Value.pointer (some { block := w.heap.size, off := 0 })]] 52) := ⟨_, rfl⟩
    rw [← hW1]
    have b1 : Below w.heap.size w W1 := by rw [hW1]; exact below_alloc (below_alloc (below_alloc (Below.refl _ _) _) _) _
    have k1 : W1.cell? ⟨w.heap.size, 0, none⟩ = some (.bool a2) := by rw [hW1]; simp [go_sem]
    have k2 : W1.cell? ⟨w.heap.size + 1 + 1, 0, none⟩ = some (.func (.func 33) #[] #[.pointer (some ⟨w.heap.size, 0, none⟩)]) := by rw [hW1]; simp [go_sem]
    clear hW1
    have HB := Aside0.mk b1
    have HR0' := Aside0.mk (Kd.C_below HR0.out b1)
    have HR1' := Aside0.mk (Kd.C_below HR1.out b1)
    clear b1
    go_loopw [16] (fun v16 w' => ∃ i : Nat, v16 = .int .i64 i ∧ i ≤ m ∧ Aside0 (lessL a2 (l0.drop i) (l1.drop i) = lessL a2 l0 l1) ∧ Drawn0 W1 w') (fun v16 _ => m - (intOf v16).toNat)
    case atStart => exact ⟨0, rfl, Nat.zero_le _, ⟨rfl⟩, Drawn0.refl _⟩
    case round =>
      obtain ⟨i, rfl, hi, HL, ⟨n, rfl⟩⟩ := hrel
      have hmm : m = l1.length ∧ l1.length < l0.length ∨ m = l0.length ∧ ¬ l1.length < l0.length := by have := HM.out; by_cases hq : l1.length < l0.length <;> simp [hq] at this ⊢ <;> omega
      by_cases hlt : i < m
      · have q0 : ((i : Nat) : Int) < (l0.length : Int) := by omega
        have q1 : ((i : Nat) : Int) < (l1.length : Int) := by omega
        obtain ⟨ad0, e0, hx0⟩ := Kd.at_int HR0'.out (i : Int) (by omega) q0
        obtain ⟨ad1, e1, hx1⟩ := Kd.at_int HR1'.out (i : Int) (by omega) q1
        cases e0
        cases e1
        simp only [Int.toNat_natCast] at hx0 hx1
        have hlt' : ((i : Nat) : Int) < (m : Int) := by omega
        by_cases hne : rd l0 i = rd l1 i
        · have st := lessL_step (t := a2) (a := l0) (b := l1) (i := i) (by omega) (by omega) hne
          have ST := Aside0.mk (st.symm.trans HL.out)
          clear st hmm
          have c1 : (rd l0 i == rd l1 i) = true := by simp [hne]
          have c2 : (rd l0 i != rd l1 i) = false := by simp [hne]
          clear hne
          go_wp2
          repeat (go_quiet (fail); try go_wp2)
          go_roundw
          case rel => exact ⟨i + 1, by go_num, by omega, ST, by repeat (first | exact Drawn0.refl _ | apply Drawn0.step)⟩
          case measure => simp [intOf]; omega
        · have st := lessL_stop (t := a2) (a := l0) (b := l1) (i := i) (by omega) (by omega) hne
          have ST := Aside0.mk (HL.out.symm.trans st)
          clear st hmm
          have c1 : (rd l0 i == rd l1 i) = false := by simp [hne]
          have c2 : (rd l0 i != rd l1 i) = true := by simp [hne]
          clear hne
          go_wp2
          repeat (go_quiet ((go_at_call 33; (refine (suffix_by1.calls _ _ a2 w.heap.size _ (by go_simp)).mono ?_); rintro e w' ⟨rfl, ⟨nd, rfl⟩⟩; (first | exact ⟨rfl, _, World.drewN_drewN _ _ _⟩ | exact ⟨rfl, _, Eq.trans (World.drewN_drewN _ _ _) (congrArg (World.drewN _) (Nat.add_assoc _ _ _))⟩))); try go_wp2)
          go_ret
          exact ⟨by rw [ST.out]; rfl, below_drawn HB.out (by repeat (first | exact Drawn0.refl _ | apply Drawn0.step))⟩
      · have hlt' : ¬ ((i : Nat) : Int) < (m : Int) := by omega
        have st := lessL_end (t := a2) (a := l0) (b := l1) (i := i) (by omega) (by omega) (by omega)
        have ST := Aside0.mk (HL.out.symm.trans st)
        clear st
        have q : ¬ ((i : Nat) : Int) < (if l1.length < l0.length then (l1.length : Int) else (l0.length : Int)) := by rcases hmm with ⟨h1, h2⟩ | ⟨h1, h2⟩ <;> simp [h2] <;> omega
        have q2 : ¬ ((i : Nat) : Int) < (l1.length : Int) ∨ ¬ ((i : Nat) : Int) < (l0.length : Int) := by omega
        clear hmm
        go_wp2
        repeat (go_quiet (fail); try go_wp2)
        go_ret
        exact ⟨by rw [ST.out]; rfl, below_drawn HB.out (by repeat (first | exact Drawn0.refl _ | apply Drawn0.step))⟩

def suffix_Less.f (l0 : List Int) (l1 : List Int) (a2 : Bool) : Option (Bool) := some (lessL a2 l0 l1)
theorem suffix_Less.calls (A0 : Option Addr) (c0 : Nat) (l0 : List Int) (A1 : Option Addr) (c1 : Nat) (l1 : List Int) (a2 : Bool) (r : Bool) (w : World) (hr0 : Kd.C (Kd.int .u8) w A0 l0.length l0) (hc0 : l0.length ≤ c0) (hr1 : Kd.C (Kd.int .u8) w A1 l1.length l1) (hc1 : l1.length ≤ c1) (h : suffix_Less.f l0 l1 a2 = some r) :
    Calls Try.prog 27 #[.slice A0 l0.length c0, .slice A1 l1.length c1, .bool a2] w fun e w' => e = .returned (.bool r) ∧ Below w.heap.size w w' := by
  obtain rfl := Option.some.inj h
  exact suffix_Less.calls0 A0 c0 l0 A1 c1 l1 a2 w hr0 hc0 hr1 hc1

/-- The greatest end's search: so many rounds at the most; where it begins, the place it is held against, how many bytes on, its period. -/
def maxL (t : Bool) (b : List Int) : Nat → Nat → Nat → Nat → Nat → Option (Int × Int)
  | 0, _, _, _, _ => none
  | f + 1, a, n, k, p =>
    if n + k < b.length then
      if ltT t (rd b ((n + k : Nat) : Int)) (rd b ((a + k : Nat) : Int)) = true then maxL t b f a (n + (k + 1)) 0 (n + (k + 1) - a)
      else if rd b ((a + k : Nat) : Int) = rd b ((n + k : Nat) : Int) then
        (if k + 1 < p then maxL t b f a n (k + 1) p else maxL t b f a (n + p) 0 p)
      else maxL t b f n (n + 1) 0 1
    else some ((a : Int), (p : Int))
def suffix_Max.f (l0 : List Int) (a1 : Bool) : Option (Int × Int) :=
  if l0.length = 0 then some (0, 0) else maxL a1 l0 (2 * l0.length + 2) 0 1 0 1

set_option maxHeartbeats 8000000 in
set_option maxRecDepth 100000 in
theorem suffix_Max.calls (A0 : Option Addr) (c0 : Nat) (l0 : List Int) (a1 : Bool) (r1 : Int) (r2 : Int) (w : World) (hr0 : Kd.C (Kd.int .u8) w A0 l0.length l0) (hc0 : l0.length ≤ c0) (h : suffix_Max.f l0 a1 = some (r1, r2)) :
    Calls Try.prog 20 #[.slice A0 l0.length c0, .bool a1] w fun e w' => e = .returned (.tuple #[.int .i64 r1, .int .i64 r2]) ∧ Below w.heap.size w w' := by
  have HR0 := Aside0.mk hr0
  have HC0 := Aside0.mk hc0
  have n0 : l0.length ≤ 9223372036854775807 := hr0.2.1
  clear hr0 hc0
  unfold suffix_Max.f at h
  by_cases hz : l0.length = 0
  · rw [if_pos hz] at h
    obtain ⟨rfl, rfl⟩ := Prod.mk.inj (Option.some.inj h)
    have z1 : ((l0.length : Int) == 0) = true := by simp [hz]
    go_enter Try.func20, Try.ntmps20
    go_wp2
    go_ret2
    exact ⟨rfl, Below.refl _ _⟩
  · rw [if_neg hz] at h
    have z1 : ((l0.length : Int) == 0) = false := by simp [hz]
    have z2 : 1 ≤ l0.length := by omega
    obtain ⟨F, hF⟩ : ∃ F : Nat, F = 2 * l0.length + 2 := ⟨_, rfl⟩
    rw [← hF] at h
    clear hF hz
    have H' := Aside0.mk h
    clear h
    go_enter Try.func20, Try.ntmps20
    go_wp2_with (go_at_call 31; refine (suffix_by.calls a1 w).mono ?_; rintro e w' ⟨rfl, rfl⟩)
    obtain ⟨W1, hW1⟩ : ∃ W1 : World, W1 = (ordW w a1).alloc (Obj.cells #[Value.func (Fn.func 33) #[] #[Value.pointer (some { block := w.heap.size, off := 0 })]] 52) := ⟨_, rfl⟩
    rw [← hW1]
    have b1 : Below w.heap.size w W1 := by rw [hW1]; exact below_alloc (below_alloc (below_alloc (Below.refl _ _) _) _) _
    have k1 : W1.cell? ⟨w.heap.size, 0, none⟩ = some (.bool a1) := by rw [hW1]; simp [go_sem]
    have k2 : W1.cell? ⟨w.heap.size + 1 + 1, 0, none⟩ = some (.func (.func 33) #[] #[.pointer (some ⟨w.heap.size, 0, none⟩)]) := by rw [hW1]; simp [go_sem]
    clear hW1
    have HB := Aside0.mk b1
    have HR0' := Aside0.mk (Kd.C_below HR0.out b1)
    clear b1
    go_loopg [7, 8, 9, 10] F (fun kq v7 v8 v9 v10 w' => ∃ a n k p : Nat, v7 = .int .i64 a ∧ v8 = .int .i64 n ∧ v9 = .int .i64 k ∧ v10 = .int .i64 p ∧ a < n ∧ k < p ∧ n + k ≤ l0.length ∧ p ≤ n ∧ Aside0 (maxL a1 l0 kq a n k p = some (r1, r2)) ∧ Drawn0 W1 w')
    case atStart => exact ⟨0, 1, 0, 1, rfl, rfl, rfl, rfl, by omega, by omega, by omega, by omega, H', Drawn0.refl _⟩
    case round =>
      clear H'
      obtain ⟨a, n, k, p, rfl, rfl, rfl, rfl, i1, i2, i3, i4, HA, ⟨m1, rfl⟩⟩ := hrel
      cases gk with
      | zero => exact absurd HA.out (by simp [maxL])
      | succ gk =>
        have H := HA.out
        clear HA
        simp only [maxL] at H
        by_cases hlt : n + k < l0.length
        · rw [if_pos hlt] at H
          obtain ⟨ad, e0, hx⟩ := Kd.at_int HR0'.out ((a + k : Nat) : Int) (by omega) (by omega)
          obtain ⟨ad1, e1, hy⟩ := Kd.at_int HR0'.out ((n + k : Nat) : Int) (by omega) (by omega)
          cases e0
          cases e1
          simp only [Int.toNat_natCast] at hx hy
          obtain ⟨x, ex⟩ : ∃ x, x = rd l0 ((a + k : Nat) : Int) := ⟨_, rfl⟩
          obtain ⟨y, ey⟩ : ∃ y, y = rd l0 ((n + k : Nat) : Int) := ⟨_, rfl⟩
          rw [← ex] at hx H
          rw [← ey] at hy H
          clear ex ey
          have g1 : (n : Int) + (k : Int) < (l0.length : Int) := by omega
          have g2 : (a : Int) + (k : Int) < (l0.length : Int) := by omega
          by_cases h1 : ltT a1 y x = true
          · rw [if_pos h1] at H
            have H' := Aside0.mk H
            clear H
            go_wp2
            repeat (go_quiet (fail); try go_wp2_with (go_at_call 33; (refine (suffix_by1.calls _ _ a1 w.heap.size _ (by go_simp)).mono ?_); rintro e w' ⟨rfl, ⟨nd, rfl⟩⟩))
            go_roundg gk
            case measure => omega
            case rel => exact ⟨a, n + (k + 1), 0, n + (k + 1) - a, by go_num, by go_num, by go_num, by go_num, by omega, by omega, by omega, by omega, H', by repeat (first | exact Drawn0.refl _ | apply Drawn0.step)⟩
          · rw [if_neg h1] at H
            have h1b : ltT a1 y x = false := by simpa using h1
            clear h1
            by_cases h2 : x = y
            · rw [if_pos h2] at H
              have h2b : (x == y) = true := by simp [h2]
              clear h2
              by_cases h3 : k + 1 < p
              · rw [if_pos h3] at H
                have h3b : decide ((k : Int) + 1 < (p : Int)) = true := decide_eq_true (by omega)
                have H' := Aside0.mk H
                clear H
                go_wp2
                repeat (go_quiet (fail); try go_wp2_with (go_at_call 33; (refine (suffix_by1.calls _ _ a1 w.heap.size _ (by go_simp)).mono ?_); rintro e w' ⟨rfl, ⟨nd, rfl⟩⟩))
                go_roundg gk
                case measure => omega
                case rel => exact ⟨a, n, k + 1, p, by go_num, by go_num, by go_num, by go_num, by omega, by omega, by omega, by omega, H', by repeat (first | exact Drawn0.refl _ | apply Drawn0.step)⟩
              · rw [if_neg h3] at H
                have h3b : decide ((k : Int) + 1 < (p : Int)) = false := decide_eq_false (by omega)
                have H' := Aside0.mk H
                clear H
                go_wp2
                repeat (go_quiet (fail); try go_wp2_with (go_at_call 33; (refine (suffix_by1.calls _ _ a1 w.heap.size _ (by go_simp)).mono ?_); rintro e w' ⟨rfl, ⟨nd, rfl⟩⟩))
                go_roundg gk
                case measure => omega
                case rel => exact ⟨a, n + p, 0, p, by go_num, by go_num, by go_num, by go_num, by omega, by omega, by omega, by omega, H', by repeat (first | exact Drawn0.refl _ | apply Drawn0.step)⟩
            · rw [if_neg h2] at H
              have h2b : (x == y) = false := by simp [h2]
              clear h2
              have H' := Aside0.mk H
              clear H
              go_wp2
              repeat (go_quiet (fail); try go_wp2_with (go_at_call 33; (refine (suffix_by1.calls _ _ a1 w.heap.size _ (by go_simp)).mono ?_); rintro e w' ⟨rfl, ⟨nd, rfl⟩⟩))
              go_roundg gk
              case measure => omega
              case rel => exact ⟨n, n + 1, 0, 1, by go_num, by go_num, by go_num, by go_num, by omega, by omega, by omega, by omega, H', by repeat (first | exact Drawn0.refl _ | apply Drawn0.step)⟩
        · rw [if_neg hlt] at H
          obtain ⟨rfl, rfl⟩ := Prod.mk.inj (Option.some.inj H)
          have g1 : ¬ (n : Int) + (k : Int) < (l0.length : Int) := by omega
          go_wp2
          go_ret2
          exact ⟨rfl, below_drawn HB.out (by repeat (first | exact Drawn0.refl _ | apply Drawn0.step))⟩
end Go.Proofs.Ytkoahbhiffahdaa.All
