/- By hand: what the laws of layer 6 call, with all that stays beside it. No condition. -/
import Derived.Test.YtifbcboefopioaaTriA
import Derived.Test.YtifbcboefopioaaRefs2
set_option linter.unusedVariables false
namespace Go.Proofs.Ytifbcboefopioaa.Tri
open Go.RowKit Go.Maps Go.Proofs.YtifbcboefopioaaW.PrintWords Go.Proofs.YtifbcboefopioaaW.PrintLast Go.Proofs.YtifbcboefopioaaW.PrintMore Go.Proofs.Ytifbcboefopioaa.Kit Go.Proofs.Ytifbcboefopioaa.All
attribute [local go_sem] max2_int min2_int max_two min_two max_three min_three max_four min_four

/-- Whatever stays as memory grows. -/
def Stays (F : World → Prop) : Prop := ∀ w w', F w → Below w.heap.size w w' → F w'
theorem Stays.and {F G : World → Prop} (hF : Stays F) (hG : Stays G) : Stays (fun w => F w ∧ G w) := fun w w' h hb => ⟨hF w w' h.1 hb, hG w w' h.2 hb⟩
theorem stays_below (w0 : World) : Stays (fun w => Below w0.heap.size w0 w) := fun w w' h hb => below_step h hb
theorem stays_tree (base b : Nat) (P : List Txt) (wd : Txt → Int) : Stays (fun w => TreeAt w base b P wd) := fun w w' h hb => h.below hb
theorem stays_reads {α : Type} (K : Kd α) (A : Option Addr) (n : Nat) (xs : List α) : Stays (fun w => Kd.C K w A n xs) := fun w w' h hb => Kd.C_below h hb

theorem stays_pack {F : World → Prop} (hF : Stays F) {w : World} (h : F w) : ∃ G : World → Prop, Aside0 (Stays G) ∧ Aside0 (G w) ∧ Aside0 (∀ w1, G w1 → F w1) := ⟨F, ⟨hF⟩, ⟨h⟩, ⟨fun _ h => h⟩⟩
theorem texts06_at (w : World) (A : Option Addr) (c : Nat) (L : List Txt) (k : Nat) (r : List ByteArray) (b : Bool) (hr : Kd.C (Kd.slice 5 (Kd.int .u8)) w A L.length L) (hc : L.length ≤ c) (h : seinelaw06_texts.f k L = some (r, b)) :
    Calls Try.prog 20 #[.slice A L.length c] w fun e w' => ∃ A1 c1, e = .returned (.tuple #[.slice A1 r.length c1, .bool b]) ∧ r.length ≤ c1 ∧ Kd.C Kd.string w' A1 r.length r ∧ Below w.heap.size w w' :=
  (seinelaw06_texts.calls k A c L r b w hr hc h).mono fun e w' ⟨v, he, ho, hb⟩ => by
    obtain ⟨A1, c1, rfl, hl, hC⟩ := Kd.R_reads ho
    exact ⟨A1, c1, he, hl, hC, hb⟩
theorem paths06_at (w : World) (A : Option Addr) (c : Nat) (L : List Txt) (hB : ∀ s ∈ L, Bytes s) (hl : L.length ≤ 1000) (h2 : ∀ s ∈ L, s.length ≤ 1000) (hr : Kd.C Kd.string w A L.length (L.map strOfNums)) (hc : L.length ≤ c) :
    Calls Try.prog 22 #[.slice A L.length c] w fun e w' => ∃ A1 c1, e = .returned (.slice A1 (pathsL L).length c1) ∧ (pathsL L).length ≤ c1 ∧ Kd.C Kd.string w' A1 (pathsL L).length ((pathsL L).map strOfNums) ∧ Below w.heap.size w w' := by
  obtain ⟨k, hk⟩ := paths_two L hB hl h2
  have hm : (L.map strOfNums).length = L.length := List.length_map ..
  have := seineref06_Paths.calls k A c (L.map strOfNums) _ w (by rw [hm]; exact hr) (by rw [hm]; exact hc) hk
  rw [hm] at this
  refine this.mono fun e w' ⟨v, he, ho, hb⟩ => ?_
  obtain ⟨A1, c1, rfl, hl, hC⟩ := Kd.R_reads ho
  rw [List.length_map] at he hl hC
  exact ⟨A1, c1, he, hl, hC, hb⟩
theorem place06_at (w : World) (A : Option Addr) (c : Nat) (l : List Txt) (s : Txt) (x : ByteArray) (hx : x = strOfNums s) (hL : ∀ x ∈ l, Bytes x) (hs : Bytes s) (hl : l.length ≤ 4611686018427387904) (hr : Kd.C Kd.string w A l.length (l.map strOfNums)) (hc : l.length ≤ c) :
    Calls Try.prog 24 #[.slice A l.length c, .string x] w fun e w' => e = .returned (.int .i64 (place l s)) ∧ Below w.heap.size w w' := by
  subst hx
  obtain ⟨k, hk⟩ := place_two l s hL hs hl
  have hm : (l.map strOfNums).length = l.length := List.length_map ..
  have := seineref06_Place.calls k A c (l.map strOfNums) _ _ w (by rw [hm]; exact hr) (by rw [hm]; exact hc) hk
  rw [hm] at this
  refine this.mono fun e w' ⟨he, nd, hw⟩ => ⟨he, ?_⟩
  subst hw
  exact pw_below_drewN (Below.refl _ _) nd
theorem kids06_at (w : World) (A : Option Addr) (c : Nat) (l : List Txt) (s : Txt) (x : ByteArray) (hx : x = strOfNums s) (hL : ∀ x ∈ l, Bytes x) (hs : Bytes s) (hl : l.length ≤ 4611686018427387904) (hsl : s.length ≤ 1099511627776) (hr : Kd.C Kd.string w A l.length (l.map strOfNums)) (hc : l.length ≤ c) :
    Calls Try.prog 30 #[.slice A l.length c, .string x] w fun e w' => e = .returned (.string (strOfNums (kidsN l s 256))) ∧ Below w.heap.size w w' := by
  subst hx
  obtain ⟨k, hk⟩ := kids_two l s hL hs hl hsl
  have hm : (l.map strOfNums).length = l.length := List.length_map ..
  have := seineref06_Kids.calls k A c (l.map strOfNums) _ _ w (by rw [hm]; exact hr) (by rw [hm]; exact hc) hk
  rw [hm] at this
  exact this
theorem conv_one (w : World) (B : Nat) (c : Int) (hB : w.heap.size = B) : (convert 32 9 (.slice (some ⟨B, 0, none⟩) 1 1)).run Try.prog (w.alloc (.cells #[.int .u8 c] 5)) = .ok (.string (strOfNums [c])) (w.alloc (.cells #[.int .u8 c] 5)) := by
  subst hB
  have h := px_reads w 5 [c] [.int .u8 c] (0, 0) rfl (by simp)
  exact Kd.C_string (P := Try.prog) (c := 1) Try.underlying32 Try.underlying5 Try.underlying9 h
theorem conv_drew (w : World) (B : Nat) (c : Int) (hB : w.heap.size = B) : (convert 32 9 (.slice (some ⟨B, 0, none⟩) 1 1)).run Try.prog (w.alloc (.cells #[.int .u8 c] 5)).drew = .ok (.string (strOfNums [c])) (w.alloc (.cells #[.int .u8 c] 5)).drew := by
  subst hB
  have h := px_reads w 5 [c] [.int .u8 c] (0, 0) rfl (by simp)
  exact Kd.C_string (P := Try.prog) (c := 1) Try.underlying32 Try.underlying5 Try.underlying9 (Kd.C_drew h)
theorem stays_drew {F : World → Prop} (hF : Stays F) {w : World} (h : F w) : F w.drew := hF w w.drew h (below_drew1 (Below.refl _ _))
theorem str_at {w : World} {A : Option Addr} {P : List Txt} (h : Kd.C Kd.string w A P.length (P.map strOfNums)) {i : Nat} {s : Txt} (hi : P[i]? = some s) : ∃ ad, A = some ad ∧ w.cell? (ad.add i) = some (.string (strOfNums s)) := by
  have hil := (List.getElem?_eq_some_iff.1 hi).1
  obtain ⟨ad, e, hx⟩ := Kd.at_string h (i : Int) (by omega) (by omega)
  rw [rd_map P hi, Int.toNat_natCast] at hx
  exact ⟨ad, e, hx⟩
theorem text_of {w : World} {A : Option Addr} {c : Nat} {s : Txt} (h : Kd.C (Kd.int .u8) w A s.length s) : (convert 32 9 (.slice A s.length c)).run Try.prog w = .ok (.string (strOfNums s)) w := Kd.C_string (P := Try.prog) Try.underlying32 Try.underlying5 Try.underlying9 h
theorem paths_len {L : List Txt} (hl : L.length ≤ 12) (h40 : ∀ s ∈ L, s.length ≤ 40) : (pathsL L).length ≤ 481 := by
  have := pathsFrom_len L [[]] 40 h40
  rw [List.length_singleton] at this
  have e : pathsL L = pathsFrom [[]] L := rfl
  rw [e]
  omega
theorem paths_short {L : List Txt} (h40 : ∀ s ∈ L, s.length ≤ 40) : ∀ x ∈ pathsL L, x.length ≤ 40 :=
  pathsFrom_all L [[]] (fun x hx => by simp at hx; subst hx; decide) (fun s hs n _ => by have := h40 s hs; rw [List.length_take]; omega)
theorem texts06_ok (w : World) (A : Option Addr) (c : Nat) (L : List Txt) (k : Nat) (hr : Kd.C (Kd.slice 5 (Kd.int .u8)) w A L.length L) (hc : L.length ≤ c) (h : seinelaw06_texts.f k L = some (L.map strOfNums, true)) :
    Calls Try.prog 20 #[.slice A L.length c] w fun e w' => ∃ A1 c1, e = .returned (.tuple #[.slice A1 L.length c1, .bool true]) ∧ L.length ≤ c1 ∧ Kd.C Kd.string w' A1 L.length (L.map strOfNums) ∧ Below w.heap.size w w' := by
  have := texts06_at w A c L k _ true hr hc h
  rwa [List.length_map] at this
theorem build_to (w : World) (A : Option Addr) (c : Nat) (L P : List Txt) (hP : P = pathsL L) (hr : Kd.C (Kd.slice 5 (Kd.int .u8)) w A L.length L) (hB : ∀ s ∈ L, Bytes s) (h1 : L.length ≤ 1000) (h2 : ∀ s ∈ L, s.length ≤ 1000) :
    Calls Try.prog 21 #[.slice A L.length c] w fun e w' => ∃ b base, e = .returned (.pointer (some ⟨b, 0, none⟩)) ∧ TreeAt w' base b P (place L) ∧ Below w.heap.size w w' := by
  subst hP
  exact (build_at w A c L hr hB h1 h2).mono fun e w' ⟨b, he, ht, hb⟩ => ⟨b, _, he, ht, hb⟩
theorem paths06_to (w : World) (A : Option Addr) (c : Nat) (L P : List Txt) (hP : P = pathsL L) (hB : ∀ s ∈ L, Bytes s) (hl : L.length ≤ 1000) (h2 : ∀ s ∈ L, s.length ≤ 1000) (hr : Kd.C Kd.string w A L.length (L.map strOfNums)) (hc : L.length ≤ c) :
    Calls Try.prog 22 #[.slice A L.length c] w fun e w' => ∃ A1 c1, e = .returned (.slice A1 P.length c1) ∧ P.length ≤ c1 ∧ Kd.C Kd.string w' A1 P.length (P.map strOfNums) ∧ Below w.heap.size w w' := by
  subst hP
  exact paths06_at w A c L hB hl h2 hr hc
end Go.Proofs.Ytifbcboefopioaa.Tri
