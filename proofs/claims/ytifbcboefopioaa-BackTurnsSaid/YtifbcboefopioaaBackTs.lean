/- By hand: the law BackTurns, walked whole. No condition. -/
import Derived.Test.YtifbcboefopioaaBackL
set_option linter.unusedVariables false
set_option linter.unusedSimpArgs false
namespace Go.Proofs.Ytifbcboefopioaa.Tri
open Go.RowKit Go.Maps Go.Proofs.YtifbcboefopioaaW.PrintWords Go.Proofs.YtifbcboefopioaaW.PrintLast Go.Proofs.YtifbcboefopioaaW.PrintMore Go.Proofs.Ytifbcboefopioaa.Kit Go.Proofs.Ytifbcboefopioaa.All
attribute [local go_sem] max2_int min2_int max_two min_two max_three min_three max_four min_four

set_option maxRecDepth 100000 in
set_option maxHeartbeats 4000000 in
theorem turns_law (A0 : Option Addr) (c0 : Nat) (a : Txt) (A1 : Option Addr) (c1 : Nat) (bs : Txt) (w : World)
    (hr0 : Kd.C (Kd.int .u8) w A0 a.length a) (hc0 : a.length ≤ c0) (ha : Bytes a) (hal : a.length ≤ 140737488351232)
    (hr1 : Kd.C (Kd.int .u8) w A1 bs.length bs) (hc1 : bs.length ≤ c1) (hb : Bytes bs) (hbl : bs.length ≤ 140737488351232) :
    Calls Try.prog 11 #[.slice A0 a.length c0, .slice A1 bs.length c1] w fun e w' => e = .returned (.bool true) ∧ Below w.heap.size w w' := by
  obtain ⟨F, SF, E0, FF⟩ := stays_pack ((stays_below w).and ((stays_reads (Kd.int .u8) A0 a.length a).and (stays_reads (Kd.int .u8) A1 bs.length bs))) ⟨Below.refl _ _, hr0, hr1⟩
  have HC0 := Aside0.mk hc0
  have HC1 := Aside0.mk hc1
  clear hr0 hr1 hc0 hc1 ha hb
  by_cases g0 : (a.length : Int) > 300
  · have d0 : decide ((a.length : Int) > 300) = true := decide_eq_true g0
    go_enter Try.func11, Try.ntmps11
    go_wp2_with (first | (go_at_call 33; (refine (awake14_at _).mono ?_); rintro e w1 ⟨rfl, hb⟩; have E1 := Aside0.mk (SF.out _ _ E0.out hb); clear hb))
    go_ret
    exact ⟨rfl, (FF.out _ E1.out).1⟩
  have d0 : decide ((a.length : Int) > 300) = false := decide_eq_false g0
  by_cases g1 : (bs.length : Int) > 300
  · have d1 : decide ((bs.length : Int) > 300) = true := decide_eq_true g1
    go_enter Try.func11, Try.ntmps11
    go_wp2_with (first | (go_at_call 33; (refine (awake14_at _).mono ?_); rintro e w1 ⟨rfl, hb⟩; have E1 := Aside0.mk (SF.out _ _ E0.out hb); clear hb))
    go_ret
    exact ⟨rfl, (FF.out _ E1.out).1⟩
  have d1 : decide ((bs.length : Int) > 300) = false := decide_eq_false g1
  have ra0 : a.reverse.reverse = a := List.reverse_reverse a
  obtain ⟨ra, hra⟩ : ∃ ra, ra = a.reverse := ⟨_, rfl⟩
  obtain ⟨rb, hrb⟩ : ∃ rb, rb = bs.reverse := ⟨_, rfl⟩
  obtain ⟨cc, hcc⟩ : ∃ cc, cc = a ++ bs := ⟨_, rfl⟩
  have lra : ra.length = a.length := by rw [hra, List.length_reverse]
  have lrb : rb.length = bs.length := by rw [hrb, List.length_reverse]
  have lcc : cc.length = a.length + bs.length := by rw [hcc, List.length_append]
  have hX : strOfNums cc.reverse = strOfNums rb ++ strOfNums ra := by rw [append_str, hcc, hra, hrb, List.reverse_append]
  obtain ⟨X, hXX⟩ : ∃ X, X = strOfNums cc.reverse := ⟨_, rfl⟩
  have hXs : X.size = cc.length := by rw [hXX, size_str, List.length_reverse]
  rw [← hra] at ra0
  have sra : (strOfNums ra).size = ra.length := size_str ra
  have srb : (strOfNums rb).size = rb.length := size_str rb
  have TA := Aside0.mk (fun (w1 : World) (h : F w1) => turn_at A0 c0 a w1 (FF.out w1 h).2.1 HC0.out (by omega))
  have TB := Aside0.mk (fun (w1 : World) (h : F w1) => turn_at A1 c1 bs w1 (FF.out w1 h).2.2 HC1.out (by omega))
  have TR : Aside0 (∀ w1 A c, Kd.C (Kd.int .u8) w1 A ra.length ra → ra.length ≤ c → Calls Try.prog 44 #[.slice A ra.length c] w1 fun e w' => ∃ v, e = .returned v ∧ Kd.R (Kd.int .u8) 5 w' w1.heap.size (fun _ => True) v a ∧ Below w1.heap.size w1 w') := ⟨fun w1 A c hr hc => by
    have := turn_at A c ra w1 hr hc (by omega)
    rwa [ra0] at this⟩
  have CA : Aside0 (∀ w1, F w1 → (convert 32 9 (.slice A0 a.length c0)).run Try.prog w1 = .ok (.string (strOfNums a)) w1) := ⟨fun w1 h => text_of (FF.out w1 h).2.1⟩
  rw [← hra] at TA
  rw [← hrb] at TB
  rw [← hXX] at hX
  have HCC := Aside0.mk hcc.symm
  have HX := Aside0.mk hX.symm
  have HXX := Aside0.mk hXX.symm
  have LRA := Aside0.mk lra
  have LRB := Aside0.mk lrb
  have LCC := Aside0.mk lcc
  have SX := Aside0.mk hXs
  have SRA := Aside0.mk sra
  have SRB := Aside0.mk srb
  clear ra0 hra hrb hcc lra lrb lcc hX hXX hXs sra srb
  go_enter Try.func11, Try.ntmps11
  go_upto_region 9 with (first
    | (go_at_call 33; (refine (awake14_at _).mono ?_); rintro e w1 ⟨rfl, hb⟩; have E1 := Aside0.mk (SF.out _ _ E0.out hb); clear hb)
    | ((with_reducible refine gate_builtin (b := .append) (xs := #[.tmp 19, .tmp 20]) rfl ?_); at_builtin; refine Kd.R_append_rows (Kd.int .u8) (w0 := w) w.heap.size rfl (.tmp 19) (.tmp 20) 32 5 (.int .u8 0) 1 rfl Try.underlying32 All.info5 rfl (by decide) (by omega) (.slice none 0 0) [] a A0 a.length c0 (fun _ => True) (fun _ => False) rfl rfl (Kd.R_nil _ _ _ _ _) (FF.out _ E1.out).2.1 (fun _ _ h => h) (fun _ h => h.elim) (fun _ _ => trivial) (FF.out _ E1.out).1 (below_size (FF.out _ E1.out).1) ?aL ?_; (case aL => simp; omega); intro v2 w2 ho hb hg hat; have HV2 := Aside0.mk (show Kd.R (Kd.int .u8) 5 w2 w.heap.size (fun _ => True) v2 a by simpa using ho); have HB2 := Aside0.mk hb; have E2 := Aside0.mk (SF.out _ _ E0.out hb); clear ho hb hg hat)
    | ((with_reducible refine gate_builtin (b := .append) (xs := #[.tmp 22, .tmp 23]) rfl ?_); at_builtin; refine Kd.R_append_rows (Kd.int .u8) (w0 := w) w.heap.size rfl (.tmp 22) (.tmp 23) 32 5 (.int .u8 0) 1 rfl Try.underlying32 All.info5 rfl (by decide) (by omega) v2 a bs A1 bs.length c1 (fun _ => True) (fun _ => False) rfl rfl HV2.out (FF.out _ E2.out).2.2 (fun _ _ h => h) (fun _ h => h.elim) (fun _ _ => trivial) HB2.out (below_size HB2.out) (by omega) ?_; intro v3 w3 ho hb hg hat; rw [HCC.out] at ho; have E3 := Aside0.mk (SF.out _ _ E0.out hb); obtain ⟨A3, c3, rfl, hc3, hC3⟩ := Kd.R_reads ho; have TC := Aside0.mk (turn_at A3 c3 cc w3 hC3 hc3 (by have := LCC.out; omega)); clear ho hb hg hat hc3 hC3))
  go_upto_region 10 with (go_at_call 44; (with_reducible refine TC.out.mono ?_); rintro e w4 ⟨v, rfl, ho, hb⟩; obtain ⟨A4, c4, rfl, hv4⟩ := row_text ho; rw [HXX.out, List.length_reverse] at hv4; have E4 := Aside0.mk (SF.out _ _ E3.out hb); clear ho hb)
  have hX := HX.out
  have lra : ra.length ≤ 300 := by have := LRA.out; omega
  have lrb : rb.length ≤ 300 := by have := LRB.out; omega
  have sra := SRA.out
  have srb := SRB.out
  have hXs := SX.out
  have hno : (9223372036854775807 < rb.length + ra.length) = False := eq_false (by omega)
  have E4d := Aside0.mk (stays_drew SF.out E4.out)
  refine start_ (n := 26) (S := F) (ds := []) #[false, false, false, false, false, false, false, false, false, false, false, false, false, false, false, false, false, false, false, false, false, false, false, false, false, false] (by kernel_rfl) rfl rfl E4d.out (fun _ => ?_)
  refine pure_ (i := 0) (N := (some 28)) (v := ?_) (a' := _) #[true, false, false, false, false, false, false, false, false, false, false, false, false, false, false, false, false, false, false, false, false, false, false, false, false, false] rfl rfl (by kernel_rfl) (fun _ _ _ h => h) (Or.inl ⟨by rfl, ?_⟩) rfl ?_
  rotate_left
  · intro w'; go_simp; with_reducible rfl
  simp only [Act.put, List.setIfInBounds_toArray, List.set_cons_zero, List.set_cons_succ]
  refine pure_ (i := 4) (N := (some 32)) (v := ?_) (a' := _) #[true, false, false, false, true, false, false, false, false, false, false, false, false, false, false, false, false, false, false, false, false, false, false, false, false, false] rfl rfl (by kernel_rfl) (fun _ _ _ h => h) (Or.inl ⟨by rfl, ?_⟩) rfl ?_
  rotate_left
  · intro w'; go_simp; with_reducible rfl
  simp only [Act.put, List.setIfInBounds_toArray, List.set_cons_zero, List.set_cons_succ]
  refine take_ (i := 5) (N := (some 33)) (v := ?_) (a' := _) #[true, false, false, false, true, true, false, false, false, false, false, false, false, false, false, false, false, false, false, false, false, false, false, false, false, false] rfl rfl (by kernel_rfl) (fun _ _ _ h => h) (Or.inl ⟨by rfl, ?_⟩) E4d.out rfl ?_
  rotate_left
  · intro w' s_; have f0_ := CA.out w' s_; go_simp; with_reducible rfl
  simp only [Act.put, List.setIfInBounds_toArray, List.set_cons_zero, List.set_cons_succ]
  refine one_ (i := 1) (N := (some 29)) #[true, true, false, false, true, true, false, false, false, false, false, false, false, false, false, false, false, false, false, false, false, false, false, false, false, false] rfl rfl (by kernel_rfl) (by decide) (fun K hK => ?_)
  go_simp
  (go_at_call 44; (with_reducible refine (TA.out _ E4d.out).mono ?_); rintro e w5 ⟨v, rfl, ho, hb⟩; obtain ⟨A5, c5, rfl, hc5, hC5⟩ := Kd.R_reads ho; have E5 := Aside0.mk (SF.out _ _ E4d.out hb); have T5 := Aside0.mk (TR.out w5 A5 c5 hC5 hc5); clear ho hb hc5 hC5)
  refine hK.out _ _ E5.out (fun _ => ?_)
  clear hK K
  try simp only [Act.put, List.setIfInBounds_toArray, List.set_cons_zero, List.set_cons_succ]
  refine one_ (i := 2) (N := (some 30)) #[true, true, true, false, true, true, false, false, false, false, false, false, false, false, false, false, false, false, false, false, false, false, false, false, false, false] rfl rfl (by kernel_rfl) (by decide) (fun K hK => ?_)
  go_simp
  (go_at_call 44; (with_reducible refine T5.out.mono ?_); rintro e w6 ⟨v, rfl, ho, hb⟩; obtain ⟨A6, c6, rfl, hv6⟩ := row_text ho; have E6 := Aside0.mk (SF.out _ _ E5.out hb); clear ho hb)
  refine hK.out _ _ E6.out (fun _ => ?_)
  clear hK K
  try simp only [Act.put, List.setIfInBounds_toArray, List.set_cons_zero, List.set_cons_succ]
  refine one_ (i := 3) (N := (some 31)) #[true, true, true, true, true, true, false, false, false, false, false, false, false, false, false, false, false, false, false, false, false, false, false, false, false, false] rfl rfl (by kernel_rfl) (by decide) (fun K hK => ?_)
  go_simp
  refine hK.out _ _ E6.out (fun _ => ?_)
  clear hK K
  try simp only [Act.put, List.setIfInBounds_toArray, List.set_cons_zero, List.set_cons_succ]
  refine pure_ (i := 6) (N := (some 34)) (v := ?_) (a' := _) #[true, true, true, true, true, true, true, false, false, false, false, false, false, false, false, false, false, false, false, false, false, false, false, false, false, false] rfl rfl (by kernel_rfl) (fun _ _ _ h => h) (Or.inl ⟨by rfl, ?_⟩) rfl ?_
  rotate_left
  · intro w'; go_simp; with_reducible rfl
  simp only [Act.put, List.setIfInBounds_toArray, List.set_cons_zero, List.set_cons_succ]
  refine pure_ (i := 7) (N := (some 35)) (v := ?_) (a' := _) #[true, true, true, true, true, true, true, true, false, false, false, false, false, false, false, false, false, false, false, false, false, false, false, false, false, false] rfl rfl (by kernel_rfl) (fun _ _ _ h => h) (Or.inl ⟨by rfl, ?_⟩) rfl ?_
  rotate_left
  · intro w'; go_simp; with_reducible rfl
  simp only [Act.put, List.setIfInBounds_toArray, List.set_cons_zero, List.set_cons_succ]
  refine pure_ (i := 8) (N := (some 36)) (v := ?_) (a' := _) #[true, true, true, true, true, true, true, true, true, false, false, false, false, false, false, false, false, false, false, false, false, false, false, false, false, false] rfl rfl (by kernel_rfl) (fun _ _ _ h => h) (Or.inl ⟨by rfl, ?_⟩) rfl ?_
  rotate_left
  · intro w'; go_simp; with_reducible rfl
  simp only [Act.put, List.setIfInBounds_toArray, List.set_cons_zero, List.set_cons_succ]
  refine pure_ (i := 9) (N := (some 37)) (v := ?_) (a' := _) #[true, true, true, true, true, true, true, true, true, true, false, false, false, false, false, false, false, false, false, false, false, false, false, false, false, false] rfl rfl (by kernel_rfl) (fun _ _ _ h => h) (Or.inl ⟨by rfl, ?_⟩) rfl ?_
  rotate_left
  · intro w'; go_simp; with_reducible rfl
  simp only [Act.put, List.setIfInBounds_toArray, List.set_cons_zero, List.set_cons_succ]
  refine pure_ (i := 12) (N := (some 40)) (v := ?_) (a' := _) #[true, true, true, true, true, true, true, true, true, true, false, false, true, false, false, false, false, false, false, false, false, false, false, false, false, false] rfl rfl (by kernel_rfl) (fun _ _ _ h => h) (Or.inl ⟨by rfl, ?_⟩) rfl ?_
  rotate_left
  · intro w'; go_simp; with_reducible rfl
  simp only [Act.put, List.setIfInBounds_toArray, List.set_cons_zero, List.set_cons_succ]
  refine one_ (i := 10) (N := (some 38)) #[true, true, true, true, true, true, true, true, true, true, true, false, true, false, false, false, false, false, false, false, false, false, false, false, false, false] rfl rfl (by kernel_rfl) (by decide) (fun K hK => ?_)
  go_simp
  (go_at_call 44; (with_reducible refine (TB.out _ E6.out).mono ?_); rintro e w7 ⟨v, rfl, ho, hb⟩; obtain ⟨A7, c7, rfl, hv7⟩ := row_stays ho; have hv7a := hv7 w7 (Below.refl _ _); have E7 := Aside0.mk (SF.out _ _ E6.out hb); have HV7 := Aside0.mk hv7; clear ho hb hv7)
  refine hK.out _ _ E7.out (fun _ => ?_)
  clear hK K
  try simp only [Act.put, List.setIfInBounds_toArray, List.set_cons_zero, List.set_cons_succ]
  refine two_ (i := 11) (j := 13) (Ni := (some 39)) (Nj := (some 41)) #[true, true, true, true, true, true, true, true, true, true, true, true, true, false, false, false, false, false, false, false, false, false, false, false, false, false] #[true, true, true, true, true, true, true, true, true, true, true, false, true, true, false, false, false, false, false, false, false, false, false, false, false, false] rfl rfl rfl rfl (by kernel_rfl) (by decide) (by decide) (fun K hK => ?_) (fun K hK => ?_)
  · skip
    go_simp
    refine hK.out _ _ E7.out (fun _ => ?_)
    clear hK K
    try simp only [Act.put, List.setIfInBounds_toArray, List.set_cons_zero, List.set_cons_succ]
    refine one_ (i := 13) (N := (some 41)) #[true, true, true, true, true, true, true, true, true, true, true, true, true, true, false, false, false, false, false, false, false, false, false, false, false, false] rfl rfl (by kernel_rfl) (by decide) (fun K hK => ?_)
    go_simp
    (go_at_call 44; (with_reducible refine (TA.out _ E7.out).mono ?_); rintro e w8 ⟨v, rfl, ho, hb⟩; obtain ⟨A8, c8, rfl, hv8⟩ := row_text ho; have hv8a := HV7.out w8 hb; have E8 := Aside0.mk (SF.out _ _ E7.out hb); clear ho hb)
    refine hK.out _ _ E8.out (fun _ => ?_)
    clear hK K
    try simp only [Act.put, List.setIfInBounds_toArray, List.set_cons_zero, List.set_cons_succ]
    refine one_ (i := 14) (N := (some 42)) #[true, true, true, true, true, true, true, true, true, true, true, true, true, true, true, false, false, false, false, false, false, false, false, false, false, false] rfl rfl (by kernel_rfl) (by decide) (fun K hK => ?_)
    go_simp
    refine hK.out _ _ E8.out (fun _ => ?_)
    clear hK K
    try simp only [Act.put, List.setIfInBounds_toArray, List.set_cons_zero, List.set_cons_succ]
    refine pure_ (i := 15) (N := (some 43)) (v := ?_) (a' := _) #[true, true, true, true, true, true, true, true, true, true, true, true, true, true, true, true, false, false, false, false, false, false, false, false, false, false] rfl rfl (by kernel_rfl) (fun _ _ _ h => h) (Or.inl ⟨by rfl, ?_⟩) rfl ?_
    rotate_left
    · intro w'; go_simp; with_reducible rfl
    simp only [Act.put, List.setIfInBounds_toArray, List.set_cons_zero, List.set_cons_succ]
    refine pure_ (i := 16) (N := (some 44)) (v := ?_) (a' := _) #[true, true, true, true, true, true, true, true, true, true, true, true, true, true, true, true, true, false, false, false, false, false, false, false, false, false] rfl rfl (by kernel_rfl) (fun _ _ _ h => h) (Or.inl ⟨by rfl, ?_⟩) rfl ?_
    rotate_left
    · intro w'; go_simp; with_reducible rfl
    simp only [Act.put, List.setIfInBounds_toArray, List.set_cons_zero, List.set_cons_succ]
    refine pure_ (i := 17) (N := (some 45)) (v := ?_) (a' := _) #[true, true, true, true, true, true, true, true, true, true, true, true, true, true, true, true, true, true, false, false, false, false, false, false, false, false] rfl rfl (by kernel_rfl) (fun _ _ _ h => h) (Or.inl ⟨by rfl, ?_⟩) rfl ?_
    rotate_left
    · intro w'; go_simp; with_reducible rfl
    simp only [Act.put, List.setIfInBounds_toArray, List.set_cons_zero, List.set_cons_succ]
    refine pure_ (i := 18) (N := (some 46)) (v := ?_) (a' := _) #[true, true, true, true, true, true, true, true, true, true, true, true, true, true, true, true, true, true, true, false, false, false, false, false, false, false] rfl rfl (by kernel_rfl) (fun _ _ _ h => h) (Or.inl ⟨by rfl, ?_⟩) rfl ?_
    rotate_left
    · intro w'; go_simp; with_reducible rfl
    simp only [Act.put, List.setIfInBounds_toArray, List.set_cons_zero, List.set_cons_succ]
    refine pure_ (i := 19) (N := (some 47)) (v := ?_) (a' := _) #[true, true, true, true, true, true, true, true, true, true, true, true, true, true, true, true, true, true, true, true, false, false, false, false, false, false] rfl rfl (by kernel_rfl) (fun _ _ _ h => h) (Or.inl ⟨by rfl, ?_⟩) rfl ?_
    rotate_left
    · intro w'; go_simp; with_reducible rfl
    simp only [Act.put, List.setIfInBounds_toArray, List.set_cons_zero, List.set_cons_succ]
    refine pure_ (i := 20) (N := (some 48)) (v := ?_) (a' := _) #[true, true, true, true, true, true, true, true, true, true, true, true, true, true, true, true, true, true, true, true, true, false, false, false, false, false] rfl rfl (by kernel_rfl) (fun _ _ _ h => h) (Or.inl ⟨by rfl, ?_⟩) rfl ?_
    rotate_left
    · intro w'; go_simp; with_reducible rfl
    simp only [Act.put, List.setIfInBounds_toArray, List.set_cons_zero, List.set_cons_succ]
    refine pure_ (i := 21) (N := (some 49)) (v := ?_) (a' := _) #[true, true, true, true, true, true, true, true, true, true, true, true, true, true, true, true, true, true, true, true, true, true, false, false, false, false] rfl rfl (by kernel_rfl) (fun _ _ _ h => h) (Or.inl ⟨by rfl, ?_⟩) rfl ?_
    rotate_left
    · intro w'; go_simp; with_reducible rfl
    simp only [Act.put, List.setIfInBounds_toArray, List.set_cons_zero, List.set_cons_succ]
    refine pure_ (i := 22) (N := (some 50)) (v := ?_) (a' := _) #[true, true, true, true, true, true, true, true, true, true, true, true, true, true, true, true, true, true, true, true, true, true, true, false, false, false] rfl rfl (by kernel_rfl) (fun _ _ _ h => h) (Or.inl ⟨by rfl, ?_⟩) rfl ?_
    rotate_left
    · intro w'; go_simp; with_reducible rfl
    simp only [Act.put, List.setIfInBounds_toArray, List.set_cons_zero, List.set_cons_succ]
    refine pure_ (i := 23) (N := (some 51)) (v := ?_) (a' := _) #[true, true, true, true, true, true, true, true, true, true, true, true, true, true, true, true, true, true, true, true, true, true, true, true, false, false] rfl rfl (by kernel_rfl) (fun _ _ _ h => h) (Or.inl ⟨by rfl, ?_⟩) rfl ?_
    rotate_left
    · intro w'; go_simp; with_reducible rfl
    simp only [Act.put, List.setIfInBounds_toArray, List.set_cons_zero, List.set_cons_succ]
    refine pure_ (i := 24) (N := (some 52)) (v := ?_) (a' := _) #[true, true, true, true, true, true, true, true, true, true, true, true, true, true, true, true, true, true, true, true, true, true, true, true, true, false] rfl rfl (by kernel_rfl) (fun _ _ _ h => h) (Or.inl ⟨by rfl, ?_⟩) rfl ?_
    rotate_left
    · intro w'; go_simp; with_reducible rfl
    simp only [Act.put, List.setIfInBounds_toArray, List.set_cons_zero, List.set_cons_succ]
    refine pure_ (i := 25) (N := (some 4)) (v := ?_) (a' := _) #[true, true, true, true, true, true, true, true, true, true, true, true, true, true, true, true, true, true, true, true, true, true, true, true, true, true] rfl rfl (by kernel_rfl) (fun _ _ _ h => h) (Or.inl ⟨by rfl, ?_⟩) rfl ?_
    rotate_left
    · intro w'; go_simp; with_reducible rfl
    simp only [Act.put, List.setIfInBounds_toArray, List.set_cons_zero, List.set_cons_succ]
    refine done_ (by kernel_rfl) ?_
    go_wp2
    go_ret
    exact ⟨rfl, (FF.out _ E8.out).1⟩
  · skip
    go_simp
    (go_at_call 44; (with_reducible refine (TA.out _ E7.out).mono ?_); rintro e w8 ⟨v, rfl, ho, hb⟩; obtain ⟨A8, c8, rfl, hv8⟩ := row_text ho; have hv8a := HV7.out w8 hb; have E8 := Aside0.mk (SF.out _ _ E7.out hb); clear ho hb)
    refine hK.out _ _ E8.out (fun _ => ?_)
    clear hK K
    try simp only [Act.put, List.setIfInBounds_toArray, List.set_cons_zero, List.set_cons_succ]
    refine two_ (i := 11) (j := 14) (Ni := (some 39)) (Nj := (some 42)) #[true, true, true, true, true, true, true, true, true, true, true, true, true, true, false, false, false, false, false, false, false, false, false, false, false, false] #[true, true, true, true, true, true, true, true, true, true, true, false, true, true, true, false, false, false, false, false, false, false, false, false, false, false] rfl rfl rfl rfl (by kernel_rfl) (by decide) (by decide) (fun K hK => ?_) (fun K hK => ?_)
    · skip
      go_simp
      refine hK.out _ _ E8.out (fun _ => ?_)
      clear hK K
      try simp only [Act.put, List.setIfInBounds_toArray, List.set_cons_zero, List.set_cons_succ]
      refine one_ (i := 14) (N := (some 42)) #[true, true, true, true, true, true, true, true, true, true, true, true, true, true, true, false, false, false, false, false, false, false, false, false, false, false] rfl rfl (by kernel_rfl) (by decide) (fun K hK => ?_)
      go_simp
      refine hK.out _ _ E8.out (fun _ => ?_)
      clear hK K
      try simp only [Act.put, List.setIfInBounds_toArray, List.set_cons_zero, List.set_cons_succ]
      refine pure_ (i := 15) (N := (some 43)) (v := ?_) (a' := _) #[true, true, true, true, true, true, true, true, true, true, true, true, true, true, true, true, false, false, false, false, false, false, false, false, false, false] rfl rfl (by kernel_rfl) (fun _ _ _ h => h) (Or.inl ⟨by rfl, ?_⟩) rfl ?_
      rotate_left
      · intro w'; go_simp; with_reducible rfl
      simp only [Act.put, List.setIfInBounds_toArray, List.set_cons_zero, List.set_cons_succ]
      refine pure_ (i := 16) (N := (some 44)) (v := ?_) (a' := _) #[true, true, true, true, true, true, true, true, true, true, true, true, true, true, true, true, true, false, false, false, false, false, false, false, false, false] rfl rfl (by kernel_rfl) (fun _ _ _ h => h) (Or.inl ⟨by rfl, ?_⟩) rfl ?_
      rotate_left
      · intro w'; go_simp; with_reducible rfl
      simp only [Act.put, List.setIfInBounds_toArray, List.set_cons_zero, List.set_cons_succ]
      refine pure_ (i := 17) (N := (some 45)) (v := ?_) (a' := _) #[true, true, true, true, true, true, true, true, true, true, true, true, true, true, true, true, true, true, false, false, false, false, false, false, false, false] rfl rfl (by kernel_rfl) (fun _ _ _ h => h) (Or.inl ⟨by rfl, ?_⟩) rfl ?_
      rotate_left
      · intro w'; go_simp; with_reducible rfl
      simp only [Act.put, List.setIfInBounds_toArray, List.set_cons_zero, List.set_cons_succ]
      refine pure_ (i := 18) (N := (some 46)) (v := ?_) (a' := _) #[true, true, true, true, true, true, true, true, true, true, true, true, true, true, true, true, true, true, true, false, false, false, false, false, false, false] rfl rfl (by kernel_rfl) (fun _ _ _ h => h) (Or.inl ⟨by rfl, ?_⟩) rfl ?_
      rotate_left
      · intro w'; go_simp; with_reducible rfl
      simp only [Act.put, List.setIfInBounds_toArray, List.set_cons_zero, List.set_cons_succ]
      refine pure_ (i := 19) (N := (some 47)) (v := ?_) (a' := _) #[true, true, true, true, true, true, true, true, true, true, true, true, true, true, true, true, true, true, true, true, false, false, false, false, false, false] rfl rfl (by kernel_rfl) (fun _ _ _ h => h) (Or.inl ⟨by rfl, ?_⟩) rfl ?_
      rotate_left
      · intro w'; go_simp; with_reducible rfl
      simp only [Act.put, List.setIfInBounds_toArray, List.set_cons_zero, List.set_cons_succ]
      refine pure_ (i := 20) (N := (some 48)) (v := ?_) (a' := _) #[true, true, true, true, true, true, true, true, true, true, true, true, true, true, true, true, true, true, true, true, true, false, false, false, false, false] rfl rfl (by kernel_rfl) (fun _ _ _ h => h) (Or.inl ⟨by rfl, ?_⟩) rfl ?_
      rotate_left
      · intro w'; go_simp; with_reducible rfl
      simp only [Act.put, List.setIfInBounds_toArray, List.set_cons_zero, List.set_cons_succ]
      refine pure_ (i := 21) (N := (some 49)) (v := ?_) (a' := _) #[true, true, true, true, true, true, true, true, true, true, true, true, true, true, true, true, true, true, true, true, true, true, false, false, false, false] rfl rfl (by kernel_rfl) (fun _ _ _ h => h) (Or.inl ⟨by rfl, ?_⟩) rfl ?_
      rotate_left
      · intro w'; go_simp; with_reducible rfl
      simp only [Act.put, List.setIfInBounds_toArray, List.set_cons_zero, List.set_cons_succ]
      refine pure_ (i := 22) (N := (some 50)) (v := ?_) (a' := _) #[true, true, true, true, true, true, true, true, true, true, true, true, true, true, true, true, true, true, true, true, true, true, true, false, false, false] rfl rfl (by kernel_rfl) (fun _ _ _ h => h) (Or.inl ⟨by rfl, ?_⟩) rfl ?_
      rotate_left
      · intro w'; go_simp; with_reducible rfl
      simp only [Act.put, List.setIfInBounds_toArray, List.set_cons_zero, List.set_cons_succ]
      refine pure_ (i := 23) (N := (some 51)) (v := ?_) (a' := _) #[true, true, true, true, true, true, true, true, true, true, true, true, true, true, true, true, true, true, true, true, true, true, true, true, false, false] rfl rfl (by kernel_rfl) (fun _ _ _ h => h) (Or.inl ⟨by rfl, ?_⟩) rfl ?_
      rotate_left
      · intro w'; go_simp; with_reducible rfl
      simp only [Act.put, List.setIfInBounds_toArray, List.set_cons_zero, List.set_cons_succ]
      refine pure_ (i := 24) (N := (some 52)) (v := ?_) (a' := _) #[true, true, true, true, true, true, true, true, true, true, true, true, true, true, true, true, true, true, true, true, true, true, true, true, true, false] rfl rfl (by kernel_rfl) (fun _ _ _ h => h) (Or.inl ⟨by rfl, ?_⟩) rfl ?_
      rotate_left
      · intro w'; go_simp; with_reducible rfl
      simp only [Act.put, List.setIfInBounds_toArray, List.set_cons_zero, List.set_cons_succ]
      refine pure_ (i := 25) (N := (some 4)) (v := ?_) (a' := _) #[true, true, true, true, true, true, true, true, true, true, true, true, true, true, true, true, true, true, true, true, true, true, true, true, true, true] rfl rfl (by kernel_rfl) (fun _ _ _ h => h) (Or.inl ⟨by rfl, ?_⟩) rfl ?_
      rotate_left
      · intro w'; go_simp; with_reducible rfl
      simp only [Act.put, List.setIfInBounds_toArray, List.set_cons_zero, List.set_cons_succ]
      refine done_ (by kernel_rfl) ?_
      go_wp2
      go_ret
      exact ⟨rfl, (FF.out _ E8.out).1⟩
    · skip
      go_simp
      refine hK.out _ _ E8.out (fun _ => ?_)
      clear hK K
      try simp only [Act.put, List.setIfInBounds_toArray, List.set_cons_zero, List.set_cons_succ]
      refine one_ (i := 11) (N := (some 39)) #[true, true, true, true, true, true, true, true, true, true, true, true, true, true, true, false, false, false, false, false, false, false, false, false, false, false] rfl rfl (by kernel_rfl) (by decide) (fun K hK => ?_)
      go_simp
      refine hK.out _ _ E8.out (fun _ => ?_)
      clear hK K
      try simp only [Act.put, List.setIfInBounds_toArray, List.set_cons_zero, List.set_cons_succ]
      refine pure_ (i := 15) (N := (some 43)) (v := ?_) (a' := _) #[true, true, true, true, true, true, true, true, true, true, true, true, true, true, true, true, false, false, false, false, false, false, false, false, false, false] rfl rfl (by kernel_rfl) (fun _ _ _ h => h) (Or.inl ⟨by rfl, ?_⟩) rfl ?_
      rotate_left
      · intro w'; go_simp; with_reducible rfl
      simp only [Act.put, List.setIfInBounds_toArray, List.set_cons_zero, List.set_cons_succ]
      refine pure_ (i := 16) (N := (some 44)) (v := ?_) (a' := _) #[true, true, true, true, true, true, true, true, true, true, true, true, true, true, true, true, true, false, false, false, false, false, false, false, false, false] rfl rfl (by kernel_rfl) (fun _ _ _ h => h) (Or.inl ⟨by rfl, ?_⟩) rfl ?_
      rotate_left
      · intro w'; go_simp; with_reducible rfl
      simp only [Act.put, List.setIfInBounds_toArray, List.set_cons_zero, List.set_cons_succ]
      refine pure_ (i := 17) (N := (some 45)) (v := ?_) (a' := _) #[true, true, true, true, true, true, true, true, true, true, true, true, true, true, true, true, true, true, false, false, false, false, false, false, false, false] rfl rfl (by kernel_rfl) (fun _ _ _ h => h) (Or.inl ⟨by rfl, ?_⟩) rfl ?_
      rotate_left
      · intro w'; go_simp; with_reducible rfl
      simp only [Act.put, List.setIfInBounds_toArray, List.set_cons_zero, List.set_cons_succ]
      refine pure_ (i := 18) (N := (some 46)) (v := ?_) (a' := _) #[true, true, true, true, true, true, true, true, true, true, true, true, true, true, true, true, true, true, true, false, false, false, false, false, false, false] rfl rfl (by kernel_rfl) (fun _ _ _ h => h) (Or.inl ⟨by rfl, ?_⟩) rfl ?_
      rotate_left
      · intro w'; go_simp; with_reducible rfl
      simp only [Act.put, List.setIfInBounds_toArray, List.set_cons_zero, List.set_cons_succ]
      refine pure_ (i := 19) (N := (some 47)) (v := ?_) (a' := _) #[true, true, true, true, true, true, true, true, true, true, true, true, true, true, true, true, true, true, true, true, false, false, false, false, false, false] rfl rfl (by kernel_rfl) (fun _ _ _ h => h) (Or.inl ⟨by rfl, ?_⟩) rfl ?_
      rotate_left
      · intro w'; go_simp; with_reducible rfl
      simp only [Act.put, List.setIfInBounds_toArray, List.set_cons_zero, List.set_cons_succ]
      refine pure_ (i := 20) (N := (some 48)) (v := ?_) (a' := _) #[true, true, true, true, true, true, true, true, true, true, true, true, true, true, true, true, true, true, true, true, true, false, false, false, false, false] rfl rfl (by kernel_rfl) (fun _ _ _ h => h) (Or.inl ⟨by rfl, ?_⟩) rfl ?_
      rotate_left
      · intro w'; go_simp; with_reducible rfl
      simp only [Act.put, List.setIfInBounds_toArray, List.set_cons_zero, List.set_cons_succ]
      refine pure_ (i := 21) (N := (some 49)) (v := ?_) (a' := _) #[true, true, true, true, true, true, true, true, true, true, true, true, true, true, true, true, true, true, true, true, true, true, false, false, false, false] rfl rfl (by kernel_rfl) (fun _ _ _ h => h) (Or.inl ⟨by rfl, ?_⟩) rfl ?_
      rotate_left
      · intro w'; go_simp; with_reducible rfl
      simp only [Act.put, List.setIfInBounds_toArray, List.set_cons_zero, List.set_cons_succ]
      refine pure_ (i := 22) (N := (some 50)) (v := ?_) (a' := _) #[true, true, true, true, true, true, true, true, true, true, true, true, true, true, true, true, true, true, true, true, true, true, true, false, false, false] rfl rfl (by kernel_rfl) (fun _ _ _ h => h) (Or.inl ⟨by rfl, ?_⟩) rfl ?_
      rotate_left
      · intro w'; go_simp; with_reducible rfl
      simp only [Act.put, List.setIfInBounds_toArray, List.set_cons_zero, List.set_cons_succ]
      refine pure_ (i := 23) (N := (some 51)) (v := ?_) (a' := _) #[true, true, true, true, true, true, true, true, true, true, true, true, true, true, true, true, true, true, true, true, true, true, true, true, false, false] rfl rfl (by kernel_rfl) (fun _ _ _ h => h) (Or.inl ⟨by rfl, ?_⟩) rfl ?_
      rotate_left
      · intro w'; go_simp; with_reducible rfl
      simp only [Act.put, List.setIfInBounds_toArray, List.set_cons_zero, List.set_cons_succ]
      refine pure_ (i := 24) (N := (some 52)) (v := ?_) (a' := _) #[true, true, true, true, true, true, true, true, true, true, true, true, true, true, true, true, true, true, true, true, true, true, true, true, true, false] rfl rfl (by kernel_rfl) (fun _ _ _ h => h) (Or.inl ⟨by rfl, ?_⟩) rfl ?_
      rotate_left
      · intro w'; go_simp; with_reducible rfl
      simp only [Act.put, List.setIfInBounds_toArray, List.set_cons_zero, List.set_cons_succ]
      refine pure_ (i := 25) (N := (some 4)) (v := ?_) (a' := _) #[true, true, true, true, true, true, true, true, true, true, true, true, true, true, true, true, true, true, true, true, true, true, true, true, true, true] rfl rfl (by kernel_rfl) (fun _ _ _ h => h) (Or.inl ⟨by rfl, ?_⟩) rfl ?_
      rotate_left
      · intro w'; go_simp; with_reducible rfl
      simp only [Act.put, List.setIfInBounds_toArray, List.set_cons_zero, List.set_cons_succ]
      refine done_ (by kernel_rfl) ?_
      go_wp2
      go_ret
      exact ⟨rfl, (FF.out _ E8.out).1⟩
end Go.Proofs.Ytifbcboefopioaa.Tri
