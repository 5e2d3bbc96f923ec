/- Plain words on texts of bytes, as lists of whole numbers and as Go's strings. No condition but that bytes are 0 to 255. -/
import Derived.Test.YtifbcboefopioaaWWords
import Derived.Laws.Strings
set_option linter.unusedVariables false
namespace Go.Proofs.Ytifbcboefopioaa.Kit
open Go.RowKit Go.Proofs.YtifbcboefopioaaW.PrintWords

/-! ### rounds -/
theorem Ev.pos {α : Type} {c : Prop} [Decidable c] {a b : Nat → Option α} {r : α} (h : c) (k : Ev a r) : Ev (fun n => if c then a n else b n) r := Ev.congr (fun n => if_pos h) k
theorem Ev.neg {α : Type} {c : Prop} [Decidable c] {a b : Nat → Option α} {r : α} (h : ¬ c) (k : Ev b r) : Ev (fun n => if c then a n else b n) r := Ev.congr (fun n => if_neg h) k
theorem Ev.bindc {α β : Type} {o : Option α} {f : Nat → α → Option β} {a : α} {r : β} (h : o = some a) (k : Ev (fun n => f n a) r) : Ev (fun n => o.bind (f n)) r := by subst h; exact k
theorem Ev.ret {α : Type} {x r : α} (h : x = r) : Ev (fun _ => some x) r := h ▸ Ev.now x
theorem Ev.const {α : Type} {o : Option α} {r : α} (h : Ev (fun _ => o) r) : o = some r := by obtain ⟨K, h⟩ := h; exact h K (Nat.le_refl _)
/-- Each number is a byte's. -/
def Bytes (l : List Int) : Prop := ∀ x ∈ l, 0 ≤ x ∧ x ≤ 255
theorem bytes_of_wf {l : List Int} (h : ∀ x ∈ l, (Lit.int .u8 x).wf = true) : Bytes l := by
  intro x hx
  have := h x hx
  simp [Lit.wf, IntKind.min, IntKind.max, IntKind.signed, IntKind.bits] at this
  omega
theorem Bytes.take {l : List Int} (h : Bytes l) (n : Nat) : Bytes (l.take n) := fun x hx => h x (List.mem_of_mem_take hx)
theorem Bytes.drop {l : List Int} (h : Bytes l) (n : Nat) : Bytes (l.drop n) := fun x hx => h x (List.mem_of_mem_drop hx)
theorem Bytes.append {a b : List Int} (ha : Bytes a) (hb : Bytes b) : Bytes (a ++ b) := by
  intro x hx
  rcases List.mem_append.1 hx with h | h
  · exact ha x h
  · exact hb x h
theorem rd_nat (l : List Int) (i : Nat) : rd l (i : Int) = l.getD i 0 := by simp [rd]
theorem rd_of {l : List Int} {i : Int} {j : Nat} (h : i = (j : Int)) : rd l i = l.getD j 0 := by rw [h, rd_nat]
theorem wrap_id {x : Int} (h0 : -9223372036854775808 ≤ x) (h1 : x ≤ 9223372036854775807) : wrap64 x = x := by unfold wrap64; omega
theorem size_str (l : List Int) : (strOfNums l).size = l.length := strOfNums_size l
theorem bt_str {l : List Int} (hb : Bytes l) (i : Int) : bt (strOfNums l) i = rd l i := by
  unfold bt rd
  by_cases h : i.toNat < l.length
  · rw [dif_pos (by rw [size_str]; exact h)]
    have : (strOfNums l)[i.toNat]'(by rw [size_str]; exact h) = UInt8.ofNat (l[i.toNat]).toNat := by
      show (strOfNums l).data[i.toNat]'_ = _
      simp [strOfNums]
    rw [this]
    have hx := hb l[i.toNat] (List.getElem_mem h)
    simp [List.getD_eq_getElem?_getD, h]
    omega
  · rw [dif_neg (by rw [size_str]; exact h)]
    simp [List.getD_eq_getElem?_getD, List.getElem?_eq_none (Nat.le_of_not_lt h)]
theorem toList_str (l : List Int) : (strOfNums l).toList = l.map fun n => UInt8.ofNat n.toNat := by
  rw [ByteArray.toList_eq]; rfl
theorem toList_str_inj {a b : List Int} (ha : Bytes a) (hb : Bytes b) : (strOfNums a).toList = (strOfNums b).toList ↔ a = b := by
  rw [toList_str, toList_str]
  constructor
  · intro h
    have key : ∀ (a b : List Int), Bytes a → Bytes b → (a.map fun n => UInt8.ofNat n.toNat) = (b.map fun n => UInt8.ofNat n.toNat) → a = b := by
      intro a
      induction a with
      | nil => intro b _ _ h; cases b with
        | nil => rfl
        | cons => simp at h
      | cons x a ih => intro b ha hb h; cases b with
        | nil => simp at h
        | cons y b =>
          simp only [List.map_cons, List.cons.injEq] at h
          have hx := ha x (by simp)
          have hy := hb y (by simp)
          have e : x = y := by
            have := congrArg UInt8.toNat h.1
            simp at this
            omega
          rw [e, ih b (fun z hz => ha z (by simp [hz])) (fun z hz => hb z (by simp [hz])) h.2]
    exact key a b ha hb h
  · rintro rfl; rfl
theorem toList_str_nil (l : List Int) : (strOfNums l).toList = [] ↔ l = [] := by
  rw [toList_str]; simp
theorem extract_str (l : List Int) (i j : Nat) : (strOfNums l).extract i j = strOfNums ((l.take j).drop i) := by
  apply ByteArray.ext
  rw [ByteArray.data_extract]
  apply Array.ext'
  simp [strOfNums, List.extract_eq_take_drop, List.map_take, List.map_drop, List.drop_take]
theorem append_str (a b : List Int) : strOfNums a ++ strOfNums b = strOfNums (a ++ b) := by
  apply ByteArray.ext
  simp [strOfNums, ByteArray.data_append]
theorem drop_take_len (l : List Int) (i : Nat) : (l.take l.length).drop i = l.drop i := by rw [List.take_length]
/-- Two texts of one length are the same, if their bytes are. -/
theorem list_ext {a b : List Int} (hl : a.length = b.length) (h : ∀ i, i < a.length → a.getD i 0 = b.getD i 0) : a = b := by
  apply List.ext_getElem hl
  intro i h1 h2
  have := h i h1
  simpa [List.getD_eq_getElem?_getD, h1, h2] using this
theorem getD_drop (l : List Int) (i j : Nat) : (l.drop i).getD j 0 = l.getD (i + j) 0 := by simp [List.getD_eq_getElem?_getD]
theorem getD_take {l : List Int} {n j : Nat} (h : j < n) : (l.take n).getD j 0 = l.getD j 0 := by simp [List.getD_eq_getElem?_getD, h]
end Go.Proofs.Ytifbcboefopioaa.Kit
