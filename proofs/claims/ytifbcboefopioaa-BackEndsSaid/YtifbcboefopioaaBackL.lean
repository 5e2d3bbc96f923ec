/- By hand: what the laws of layer 14 call. No condition. -/
import Derived.Test.YtifbcboefopioaaBackA
import Derived.Test.YtifbcboefopioaaRefs3
set_option linter.unusedVariables false
namespace Go.Proofs.Ytifbcboefopioaa.Tri
open Go.RowKit Go.Maps Go.Proofs.YtifbcboefopioaaW.PrintWords Go.Proofs.YtifbcboefopioaaW.PrintLast Go.Proofs.YtifbcboefopioaaW.PrintMore Go.Proofs.Ytifbcboefopioaa.Kit Go.Proofs.Ytifbcboefopioaa.All
attribute [local go_sem] max2_int min2_int max_two min_two max_three min_three max_four min_four

theorem stays_is (g : Nat) (tp : Value) (least : Int) (near : List Int) : Stays (fun w => BackIs w g tp least near) := fun w w' h hb => h.below hb
theorem texts14_at (w : World) (A : Option Addr) (c : Nat) (L : List Txt) (k : Nat) (r : List ByteArray) (b : Bool) (hr : Kd.C (Kd.slice 5 (Kd.int .u8)) w A L.length L) (hc : L.length ≤ c) (h : seinelaw14_texts.f k L = some (r, b)) :
    Calls Try.prog 34 #[.slice A L.length c] w fun e w' => ∃ A1 c1, e = .returned (.tuple #[.slice A1 r.length c1, .bool b]) ∧ r.length ≤ c1 ∧ Kd.C Kd.string w' A1 r.length r ∧ Below w.heap.size w w' :=
  (seinelaw14_texts.calls k A c L r b w hr hc h).mono fun e w' ⟨v, he, ho, hb⟩ => by
    obtain ⟨A1, c1, rfl, hl, hC⟩ := Kd.R_reads ho
    exact ⟨A1, c1, he, hl, hC, hb⟩
theorem texts14_ok (w : World) (A : Option Addr) (c : Nat) (L : List Txt) (k : Nat) (hr : Kd.C (Kd.slice 5 (Kd.int .u8)) w A L.length L) (hc : L.length ≤ c) (h : seinelaw14_texts.f k L = some (L.map strOfNums, true)) :
    Calls Try.prog 34 #[.slice A L.length c] w fun e w' => ∃ A1 c1, e = .returned (.tuple #[.slice A1 L.length c1, .bool true]) ∧ L.length ≤ c1 ∧ Kd.C Kd.string w' A1 L.length (L.map strOfNums) ∧ Below w.heap.size w w' := by
  have := texts14_at w A c L k _ true hr hc h
  rwa [List.length_map] at this
theorem bbuild_to (w : World) (A : Option Addr) (c : Nat) (L T P : List Txt) (hT : T = TL L) (hP : P = pathsL T) (hr : Kd.C (Kd.slice 5 (Kd.int .u8)) w A L.length L) (hB : ∀ s ∈ L, Bytes s) (h1 : L.length ≤ 1000) (h2 : ∀ s ∈ L, s.length ≤ 1000) :
    Calls Try.prog 35 #[.slice A L.length c] w fun e w' => ∃ g base b, e = .returned (.pointer (some ⟨g, 0, none⟩)) ∧ BackIs w' g (.pointer (some ⟨b, 0, none⟩)) (leastN T) (nearN T) ∧ TreeAt w' base b P (place T) ∧ Below w.heap.size w w' := by
  subst hP
  subst hT
  exact bbuild_at w A c L hr hB h1 h2
theorem turned_at (w : World) (A : Option Addr) (c : Nat) (L T : List Txt) (hT : T = TL L) (hl : L.length ≤ 1000) (h2 : ∀ s ∈ L, s.length ≤ 1000) (hr : Kd.C Kd.string w A L.length (L.map strOfNums)) (hc : L.length ≤ c) :
    Calls Try.prog 36 #[.slice A L.length c] w fun e w' => ∃ A1 c1, e = .returned (.slice A1 T.length c1) ∧ T.length ≤ c1 ∧ Kd.C Kd.string w' A1 T.length (T.map strOfNums) ∧ Below w.heap.size w w' := by
  subst hT
  obtain ⟨k, hk⟩ := turned_two L hl h2
  have hm : (L.map strOfNums).length = L.length := List.length_map ..
  have := seineref14_Turned.calls k A c (L.map strOfNums) _ w (by rw [hm]; exact hr) (by rw [hm]; exact hc) hk
  rw [hm] at this
  refine this.mono fun e w' ⟨v, he, ho, hb⟩ => ?_
  obtain ⟨A1, c1, rfl, hl, hC⟩ := Kd.R_reads ho
  rw [List.length_map] at he hl hC
  exact ⟨A1, c1, he, hl, hC, hb⟩
theorem least14_at (w : World) (A : Option Addr) (c : Nat) (T : List Txt) (hl : T.length ≤ 1000) (hne : ∀ t ∈ T, t ≠ []) (h2 : ∀ s ∈ T, s.length ≤ 1000) (hr : Kd.C Kd.string w A T.length (T.map strOfNums)) (hc : T.length ≤ c) :
    Calls Try.prog 38 #[.slice A T.length c] w fun e w' => e = .returned (.int .i64 (leastN T)) ∧ Below w.heap.size w w' := by
  obtain ⟨k, hk⟩ := least_two T hl hne h2
  have hm : (T.map strOfNums).length = T.length := List.length_map ..
  have := seineref14_Least.calls k A c (T.map strOfNums) _ w (by rw [hm]; exact hr) (by rw [hm]; exact hc) hk
  rw [hm] at this
  refine this.mono fun e w' ⟨he, nd, hw⟩ => ⟨he, ?_⟩
  subst hw
  exact pw_below_drewN (Below.refl _ _) nd
theorem near14_at (w : World) (A : Option Addr) (c : Nat) (T : List Txt) (hl : T.length ≤ 1000) (hB : ∀ t ∈ T, Bytes t) (h2 : ∀ s ∈ T, s.length ≤ 1000) (x : Int) (x0 : 0 ≤ x) (x1 : x ≤ 255) (hr : Kd.C Kd.string w A T.length (T.map strOfNums)) (hc : T.length ≤ c) :
    Calls Try.prog 43 #[.slice A T.length c, .int .u8 x] w fun e w' => e = .returned (.int .i64 (rd (nearN T) x)) ∧ Below w.heap.size w w' := by
  obtain ⟨k, hk⟩ := near_two T hl hB h2 x x0 x1
  have hm : (T.map strOfNums).length = T.length := List.length_map ..
  have := seineref14_Near.calls k A c (T.map strOfNums) _ _ w (by rw [hm]; exact hr) (by rw [hm]; exact hc) hk
  rw [hm] at this
  refine this.mono fun e w' ⟨he, nd, hw⟩ => ⟨he, ?_⟩
  subst hw
  exact pw_below_drewN (Below.refl _ _) nd
theorem turn14_at (w : World) (s : Txt) (hl : s.length ≤ 1099511627776) :
    Calls Try.prog 40 #[.string (strOfNums s)] w fun e w' => e = .returned (.string (strOfNums s.reverse)) ∧ Below w.heap.size w w' := by
  obtain ⟨k, hk⟩ := turn14_two s hl
  refine (seineref14_Turn.calls k (strOfNums s) _ w hk).mono fun e w' ⟨he, nd, hw⟩ => ⟨he, ?_⟩
  subst hw
  exact pw_below_drewN (Below.refl _ _) nd
theorem TL_bytes {L : List Txt} (hB : ∀ s ∈ L, Bytes s) : ∀ t ∈ TL L, Bytes t := fun t ht x hx => hB _ (TL_mem.1 ht).2 x (List.mem_reverse.2 hx)
theorem TL_short {L : List Txt} (h : ∀ s ∈ L, s.length ≤ 40) : ∀ t ∈ TL L, t.length ≤ 40 := fun t ht => by
  have := h _ (TL_mem.1 ht).2
  rwa [List.length_reverse] at this
end Go.Proofs.Ytifbcboefopioaa.Tri
