/- The reference's Size; the statement QueryTexts, walked. -/
import Derived.Test.YtolkijelldlmeaaGreatDoorYWrM
import Derived.Test.YtolkijelldlmeaaGreatDoorYMsM
import Derived.Test.YtolkijelldlmeaaGreatDoorRText
import Derived.Test.YtolkijelldlmeaaGreatDoorYAwM
namespace Go.Proofs.YtolkijelldlmeaaGreatDoor
open Go.RowKit Go.Proofs Go

namespace Tm
theorem join_snoc : ∀ (ps : List (List UInt8)) (x s : List UInt8), Lib.join (ps ++ [x]) s = if ps = [] then x else Lib.join ps s ++ (s ++ x)
  | [], x, s => by rw [if_pos rfl, List.nil_append, Lib.join_one]
  | [p], x, s => by rw [if_neg (by simp), List.cons_append, List.nil_append, join_two, Lib.join_one, Lib.join_one]
  | p :: q :: r, x, s => by
    have h := join_snoc (q :: r) x s
    rw [if_neg (by simp)] at h
    rw [if_neg (by simp), List.cons_append, List.cons_append, join_two, join_two, ← List.cons_append, h]
    simp
theorem join_len {N : Nat} : ∀ (ps : List (List UInt8)) (s : List UInt8), (∀ p ∈ ps, p.length ≤ N) → (Lib.join ps s).length ≤ ps.length * (N + s.length)
  | [], s, _ => by simp [Lib.join]
  | [p], s, h => by
    have := h p (by simp)
    rw [Lib.join_one]; simp; omega
  | p :: q :: r, s, h => by
    have h1 := join_len (q :: r) s fun x hx => h x (List.mem_cons_of_mem _ hx)
    have h2 := h p (by simp)
    rw [join_two, List.length_append, List.length_append, List.length_cons, Nat.succ_mul]
    omega
end Tm
theorem TT.tm_kind (x : TT) : x.tm.kind = x.k := by obtain ⟨k, f, o, v, A, c, ks⟩ := x; rw [TT.tm_mk]; rfl
set_option maxHeartbeats 1000000 in
set_option maxRecDepth 100000 in
theorem rfields_any (w : World) : Calls Tryz.prog 179 #[] w fun e w' => e = .returned (.slice (some ⟨w.heap.size, 0, none⟩) 8 8) ∧ w' = w.alloc (.cells #[.string ⟨#[]⟩, .string ⟨#[105, 100]⟩, .string ⟨#[111, 98, 118]⟩, .string ⟨#[114, 101, 118]⟩, .string ⟨#[111, 98, 118, 115, 116, 97, 116, 101]⟩, .string ⟨#[114, 101, 118, 115, 116, 97, 116, 101]⟩, .string ⟨#[97, 120, 105, 115]⟩, .string ⟨#[119, 101, 105, 103, 104, 116]⟩] 9) := by
  go_enter Tryz.func179, Tryz.ntmps179
  go_wp2
  go_ret
  exact ⟨rfl, rfl⟩
theorem rfields_len (w : World) : Calls Tryz.prog 179 #[] w fun e w' => e = .returned (.slice (some ⟨w.heap.size, 0, none⟩) 8 8) ∧ Below w.heap.size w w' :=
  (rfields_any w).mono fun _ _ h => ⟨h.1, by rw [h.2]; exact below_alloc _ _⟩
set_option maxHeartbeats 1000000 in
set_option maxRecDepth 100000 in
theorem rsigns_any (w : World) : Calls Tryz.prog 180 #[] w fun e w' => e = .returned (.slice (some ⟨w.heap.size, 0, none⟩) 7 7) ∧ w' = w.alloc (.cells #[.string ⟨#[]⟩, .string ⟨#[61]⟩, .string ⟨#[33, 61]⟩, .string ⟨#[60]⟩, .string ⟨#[60, 61]⟩, .string ⟨#[62]⟩, .string ⟨#[62, 61]⟩] 9) := by
  go_enter Tryz.func180, Tryz.ntmps180
  go_wp2
  go_ret
  exact ⟨rfl, rfl⟩
theorem rsigns_len (w : World) : Calls Tryz.prog 180 #[] w fun e w' => e = .returned (.slice (some ⟨w.heap.size, 0, none⟩) 7 7) ∧ Below w.heap.size w w' :=
  (rsigns_any w).mono fun _ _ h => ⟨h.1, by rw [h.2]; exact below_alloc _ _⟩
theorem rfields_cells (w : World) : Calls Tryz.prog 179 #[] w fun e w' => ∃ g : Nat, e = .returned (.slice (some ⟨g, 0, none⟩) 8 8) ∧ SLit w' g ([] :: Tm.fieldL) ∧ Below w.heap.size w w' :=
  (rfields_any w).mono fun _ _ h => ⟨w.heap.size, h.1, fun i x hx => by
    rw [h.2]
    refine al_at rfl _ ?_
    match i, hx with
    | 0, hx => simp [Tm.fieldL] at hx; subst hx; rfl
    | 1, hx => simp [Tm.fieldL] at hx; subst hx; rfl
    | 2, hx => simp [Tm.fieldL] at hx; subst hx; rfl
    | 3, hx => simp [Tm.fieldL] at hx; subst hx; rfl
    | 4, hx => simp [Tm.fieldL] at hx; subst hx; rfl
    | 5, hx => simp [Tm.fieldL] at hx; subst hx; rfl
    | 6, hx => simp [Tm.fieldL] at hx; subst hx; rfl
    | 7, hx => simp [Tm.fieldL] at hx; subst hx; rfl
    | i + 8, hx => simp [Tm.fieldL] at hx, by rw [h.2]; exact below_alloc _ _⟩
theorem rsigns_cells (w : World) : Calls Tryz.prog 180 #[] w fun e w' => ∃ g : Nat, e = .returned (.slice (some ⟨g, 0, none⟩) 7 7) ∧ SLit w' g ([] :: Tm.signL) ∧ Below w.heap.size w w' :=
  (rsigns_any w).mono fun _ _ h => ⟨w.heap.size, h.1, fun i x hx => by
    rw [h.2]
    refine al_at rfl _ ?_
    match i, hx with
    | 0, hx => simp [Tm.signL] at hx; subst hx; rfl
    | 1, hx => simp [Tm.signL] at hx; subst hx; rfl
    | 2, hx => simp [Tm.signL] at hx; subst hx; rfl
    | 3, hx => simp [Tm.signL] at hx; subst hx; rfl
    | 4, hx => simp [Tm.signL] at hx; subst hx; rfl
    | 5, hx => simp [Tm.signL] at hx; subst hx; rfl
    | 6, hx => simp [Tm.signL] at hx; subst hx; rfl
    | i + 7, hx => simp [Tm.signL] at hx, by rw [h.2]; exact below_alloc _ _⟩
set_option maxRecDepth 100000 in
theorem rdec50_any {n : Int} {P : List UInt8} (w : World) (hP : Hid (dz n = P)) (h0 : 0 ≤ n) (h1 : n ≤ 1000000) :
    Calls Tryz.prog 181 #[.int .i64 n] w fun e w' => e = .returned (.string (str P)) ∧ Below w.heap.size w w' := by
  obtain ⟨m, rfl⟩ : ∃ m : Nat, n = m := ⟨n.toNat, by omega⟩
  have hm : m / 1000000000 / 1000000000 ≤ 18 := by omega
  go_enter Tryz.func181, Tryz.ntmps181
  go_wp2_with fail
  refine (rof_any m _ hm).mono ?_
  rintro e w1 ⟨A1, c1, rfl, F1, hb⟩
  have hl : (dig m).length ≤ 536870912 := Nat.le_trans (dig_len_le (k := 2) (by have h := pw_ten 2; rw [h]; omega)) (by omega)
  go_wp2_with fail
  refine (rtext_any A1 _ c1 (dig m) _ F1 rfl hl).mono ?_
  rintro e w2 ⟨rfl, hb2⟩
  go_wp2
  go_ret
  exact ⟨by rw [← hP.out, val_dig]; rfl, bel_trans hb hb2⟩
set_option maxHeartbeats 4000000 in
set_option maxRecDepth 100000 in
theorem rtext_leaf (f o v : Int) (A : Option Addr) (c : Nat) (w : World) (hf1 : 1 ≤ f) (hf2 : f ≤ 7) (ho1 : 1 ≤ o) (ho2 : o ≤ 6) (hv0 : 0 ≤ v) (hv9 : v ≤ 999999) :
    Calls Tryz.prog 98 #[.agg #[.int .i64 1, .int .i64 f, .int .i64 o, .int .i64 v, .slice A 0 c]] w fun e w' => e = .returned (.string (str (Tm.text (.mk 1 f o v [])))) ∧ Below w.heap.size w w' := by
  obtain ⟨P, hP⟩ : ∃ P, Hid (dz v = P) := ⟨_, Lib.hid rfl⟩
  have htx := Lib.hid (show Tm.text (.mk 1 f o v []) = Tm.nth Tm.fieldL f ++ 32 :: (Tm.nth Tm.signL o ++ 32 :: P) by rw [Tm.text_1, ← hP.out]; rfl)
  obtain ⟨fm, rfl⟩ := Int.eq_ofNat_of_zero_le (show 0 ≤ f by omega)
  obtain ⟨om, rfl⟩ := Int.eq_ofNat_of_zero_le (show 0 ≤ o by omega)
  obtain ⟨nf, hnf⟩ : ∃ x, Hid (Tm.nth Tm.fieldL (fm : Int) = x) := ⟨_, Lib.hid rfl⟩
  obtain ⟨np, hno⟩ : ∃ x, Hid (Tm.nth Tm.signL (om : Int) = x) := ⟨_, Lib.hid rfl⟩
  have hfn := Lib.hid (show ([] :: Tm.fieldL : List Tok)[fm]? = some nf by
    rw [← hnf.out]
    obtain rfl | rfl | rfl | rfl | rfl | rfl | rfl : fm = 1 ∨ fm = 2 ∨ fm = 3 ∨ fm = 4 ∨ fm = 5 ∨ fm = 6 ∨ fm = 7 := by omega
    all_goals rfl)
  have hon := Lib.hid (show ([] :: Tm.signL : List Tok)[om]? = some np by
    rw [← hno.out]
    obtain rfl | rfl | rfl | rfl | rfl | rfl : om = 1 ∨ om = 2 ∨ om = 3 ∨ om = 4 ∨ om = 5 ∨ om = 6 := by omega
    all_goals rfl)
  have hsf : (str nf).size ≤ 8 := by rw [str_size, ← hnf.out]; exact Tm.nth_len.1
  have hso : (str np).size ≤ 2 := by rw [str_size, ← hno.out]; exact Tm.nth_len.2
  have hsp : (str P).size ≤ 6 := by rw [str_size, ← hP.out]; exact dz_len (by omega) (by omega) hv0
  have z1 : ¬ 9223372036854775807 < (str nf).size + 1 := by omega
  have z2 : ¬ 9223372036854775807 < (str nf).size + 1 + (str np).size := by omega
  have z3 : ¬ 9223372036854775807 < (str nf).size + 1 + (str np).size + 1 := by omega
  have z4 : ¬ 9223372036854775807 < (str nf).size + 1 + (str np).size + 1 + (str P).size := by omega
  have hf8 : (fm : Int) < 8 := by omega
  have ho7 : (om : Int) < 7 := by omega
  have HX := BL.one w #[.int .i64 1, .int .i64 (fm : Int), .int .i64 (om : Int), .int .i64 v, .slice A 0 c] 55
  go_enter Tryz.func98, Tryz.ntmps98
  go_upto_region 1 with fail
  generalize w.alloc (.cells #[.int .i64 1, .int .i64 (fm : Int), .int .i64 (om : Int), .int .i64 v, .slice A 0 c] 55) = V at *
  have hc00 := HX.cell 0 0 rfl rfl
  try simp only [List.getElem_toArray, List.getElem_cons_zero] at hc00
  go_upto_region 3 with fail
  clear hc00
  refine wp_region_x (al := []) (late := [17]) (dst := fun i => 0) (zt := fun _ => (#[], 0)) (B := V.heap.size) (n := 17) (r := 1) (by kernel_rfl) (by kernel_rfl) (by decide) ?_ (by kernel_rfl) (by kernel_rfl) (by intro _ _ _ d _ h; cases d <;> exact h) (sz := 18) (by rfl) (by rfl) (Nat.le_refl _) ?_
  · intro i hi; cases hi
  have hE : Ext V V.drew := drew_ext V
  replace HX := HX.ext hE
  clear hE
  refine wpX_take (i := 1) (v := ?_) rfl (by kernel_rfl) (by kernel_rfl) (by kernel_rfl) (fun _ _ _ h => h) (Or.inl ⟨by rfl, fun W hW => ?_⟩) ?_
  rotate_left
  · go_simp <;> (try with_reducible rfl)
  try simp only [Act.put, List.setIfInBounds_toArray]
  refine wpX_take (i := 2) (v := ?_) rfl (by kernel_rfl) (by kernel_rfl) (by kernel_rfl) (fun _ _ _ h => h) (Or.inl ⟨by rfl, fun W hW => ?_⟩) ?_
  rotate_left
  · have h0 := (HX.ext hW).cell 0 1 rfl rfl
    simp only [List.getElem_toArray, List.getElem_cons_zero, List.getElem_cons_succ] at h0
    go_simp <;> (try with_reducible rfl)
  try simp only [Act.put]
  refine wpX_take (i := 7) (v := ?_) rfl (by kernel_rfl) (by kernel_rfl) (by kernel_rfl) (fun _ _ _ h => h) (Or.inl ⟨by rfl, fun W hW => ?_⟩) ?_
  rotate_left
  · go_simp <;> (try with_reducible rfl)
  try simp only [Act.put]
  refine wpX_take (i := 8) (v := ?_) rfl (by kernel_rfl) (by kernel_rfl) (by kernel_rfl) (fun _ _ _ h => h) (Or.inl ⟨by rfl, fun W hW => ?_⟩) ?_
  rotate_left
  · have h0 := (HX.ext hW).cell 0 2 rfl rfl
    simp only [List.getElem_toArray, List.getElem_cons_zero, List.getElem_cons_succ] at h0
    go_simp <;> (try with_reducible rfl)
  try simp only [Act.put]
  refine wpX_take (i := 13) (v := ?_) rfl (by kernel_rfl) (by kernel_rfl) (by kernel_rfl) (fun _ _ _ h => h) (Or.inl ⟨by rfl, fun W hW => ?_⟩) ?_
  rotate_left
  · go_simp <;> (try with_reducible rfl)
  try simp only [Act.put]
  refine wpX_take (i := 14) (v := ?_) rfl (by kernel_rfl) (by kernel_rfl) (by kernel_rfl) (fun _ _ _ h => h) (Or.inl ⟨by rfl, fun W hW => ?_⟩) ?_
  rotate_left
  · have h0 := (HX.ext hW).cell 0 3 rfl rfl
    simp only [List.getElem_toArray, List.getElem_cons_zero, List.getElem_cons_succ] at h0
    go_simp <;> (try with_reducible rfl)
  try simp only [Act.put]
  refine wpX_step (i := 0) (by kernel_rfl) rfl (fun W1 K hE hK => ?_)
  replace HX := HX.ext hE
  clear hE
  go_simp
  refine (rfields_cells _).mono ?_
  rintro e W2 ⟨ga, rfl, HFa, hb⟩
  go_wp2_with fail
  refine hK.out _ _ hb ?_
  clear hK K
  replace HX := HX.ext hb
  clear hb
  try simp only [Act.put, List.setIfInBounds_toArray, List.set_cons_zero, List.set_cons_succ]
  skip
  refine wpX_take (i := 3) (v := ?_) rfl (by kernel_rfl) (by kernel_rfl) (by kernel_rfl) (fun _ _ _ h => h) (Or.inl ⟨by rfl, fun W hW => ?_⟩) ?_
  rotate_left
  · go_simp <;> (try with_reducible rfl)
  try simp only [Act.put, List.setIfInBounds_toArray]
  refine wpX_take (i := 4) (v := ?_) rfl (by kernel_rfl) (by kernel_rfl) (by kernel_rfl) (fun _ _ _ h => h) (Or.inl ⟨by rfl, fun W hW => ?_⟩) ?_
  rotate_left
  · have h0 := (HFa.ext hW) _ _ hfn.out
    go_simp <;> (try with_reducible rfl)
  try simp only [Act.put]
  refine wpX_take (i := 5) (v := ?_) rfl (by kernel_rfl) (by kernel_rfl) (by kernel_rfl) (fun _ _ _ h => h) (Or.inl ⟨by rfl, fun W hW => ?_⟩) ?_
  rotate_left
  · go_simp <;> (try with_reducible rfl)
  try simp only [Act.put]
  refine wpX_step (i := 6) (by kernel_rfl) rfl (fun W1 K hE hK => ?_)
  replace HX := HX.ext hE
  replace HFa := HFa.ext hE
  clear hE
  go_simp
  refine (rsigns_cells _).mono ?_
  rintro e W2 ⟨gb, rfl, HFb, hb⟩
  go_wp2_with fail
  refine hK.out _ _ hb ?_
  clear hK K
  replace HX := HX.ext hb
  replace HFa := HFa.ext hb
  clear hb
  try simp only [Act.put, List.setIfInBounds_toArray, List.set_cons_zero, List.set_cons_succ]
  skip
  refine wpX_take (i := 9) (v := ?_) rfl (by kernel_rfl) (by kernel_rfl) (by kernel_rfl) (fun _ _ _ h => h) (Or.inl ⟨by rfl, fun W hW => ?_⟩) ?_
  rotate_left
  · go_simp <;> (try with_reducible rfl)
  try simp only [Act.put, List.setIfInBounds_toArray]
  refine wpX_take (i := 10) (v := ?_) rfl (by kernel_rfl) (by kernel_rfl) (by kernel_rfl) (fun _ _ _ h => h) (Or.inl ⟨by rfl, fun W hW => ?_⟩) ?_
  rotate_left
  · have h0 := (HFb.ext hW) _ _ hon.out
    go_simp <;> (try with_reducible rfl)
  try simp only [Act.put]
  refine wpX_take (i := 11) (v := ?_) rfl (by kernel_rfl) (by kernel_rfl) (by kernel_rfl) (fun _ _ _ h => h) (Or.inl ⟨by rfl, fun W hW => ?_⟩) ?_
  rotate_left
  · go_simp <;> (try with_reducible rfl)
  try simp only [Act.put]
  refine wpX_take (i := 12) (v := ?_) rfl (by kernel_rfl) (by kernel_rfl) (by kernel_rfl) (fun _ _ _ h => h) (Or.inl ⟨by rfl, fun W hW => ?_⟩) ?_
  rotate_left
  · go_simp <;> (try with_reducible rfl)
  try simp only [Act.put]
  refine wpX_step (i := 15) (by kernel_rfl) rfl (fun W1 K hE hK => ?_)
  replace HX := HX.ext hE
  replace HFa := HFa.ext hE
  replace HFb := HFb.ext hE
  clear hE
  go_simp
  refine (rdec50_any _ hP hv0 (by omega)).mono ?_
  rintro e W2 ⟨rfl, hb⟩
  go_wp2_with fail
  refine hK.out _ _ hb ?_
  clear hK K
  replace HX := HX.ext hb
  replace HFa := HFa.ext hb
  replace HFb := HFb.ext hb
  clear hb
  try simp only [Act.put, List.setIfInBounds_toArray, List.set_cons_zero, List.set_cons_succ]
  skip
  refine wpX_take (i := 16) (v := ?_) rfl (by kernel_rfl) (by kernel_rfl) (by kernel_rfl) (fun _ _ _ h => h) (Or.inl ⟨by rfl, fun W hW => ?_⟩) ?_
  rotate_left
  · go_simp <;> (try with_reducible rfl)
  try simp only [Act.put, List.setIfInBounds_toArray]
  refine wpX_end (by kernel_rfl) (fun W12 ga m hE hg hm => ?_)
  replace HX := HX.ext hE
  replace HFa := HFa.ext hE
  replace HFb := HFb.ext hE
  clear hE
  clear hg
  simp only [putAll, setAll]
  clear ga
  refine wpAny_step (i := 17) (by kernel_rfl) rfl (by omega) (fun K hK => ?_)
  go_simp
  refine hK.out _ _ ?_
  clear hK K
  refine wpAny_done (by kernel_rfl) ?_ _
  go_wp2
  go_ret
  exact ⟨by rw [htx.out, hnf.out, hno.out, show (⟨#[32]⟩ : ByteArray) = str [32] from rfl]; simp only [str_append]; simp, HX.below⟩
set_option maxHeartbeats 2000000 in
set_option maxRecDepth 100000 in
theorem rinner_of {b c : Bool} {T : List UInt8} (x : TT) (w : World) (HM : x.Mem w) (hc : Hid (c = (decide (x.k = 3) || (b && decide (x.k = 2))))) (hTl : T.length ≤ 60000)
    (ih : ∀ W : World, x.Mem W → Calls Tryz.prog 98 #[x.val] W fun e w' => e = .returned (.string (str T)) ∧ Below W.heap.size W w') :
    Calls Tryz.prog 182 #[x.val, .bool b] w fun e w' => e = .returned (.string (str (Tm.parB c T))) ∧ Below w.heap.size w w' := by
  have hsz : (str T).size ≤ 60000 := by rw [str_size]; exact hTl
  have HX := BL.one w #[.int .i64 x.k, .int .i64 x.f, .int .i64 x.o, .int .i64 x.v, .slice x.A x.ks.length x.c] 55
  replace HM := TT.Mem.ext HX.below HM
  obtain ⟨k, f, o, v, A, cx, ks⟩ := x
  change Hid (c = (decide (k = 3) || (b && decide (k = 2)))) at hc
  change BL w (w.alloc (.cells #[.int .i64 k, .int .i64 f, .int .i64 o, .int .i64 v, .slice A ks.length cx] 55)) [(w.heap.size, #[.int .i64 k, .int .i64 f, .int .i64 o, .int .i64 v, .slice A ks.length cx], 55)] at HX
  show Calls _ _ #[.agg #[.int .i64 k, .int .i64 f, .int .i64 o, .int .i64 v, .slice A ks.length cx], .bool b] w _
  change TT.Mem (w.alloc (.cells #[.int .i64 k, .int .i64 f, .int .i64 o, .int .i64 v, .slice A ks.length cx] 55)) _ at HM
  go_enter Tryz.func182, Tryz.ntmps182
  go_upto_region 1 with fail
  generalize w.alloc (.cells #[.int .i64 k, .int .i64 f, .int .i64 o, .int .i64 v, .slice A ks.length cx] 55) = W0 at *
  have hc00 := HX.cell 0 0 rfl rfl
  have hc01 := HX.cell 0 1 rfl rfl
  have hc02 := HX.cell 0 2 rfl rfl
  have hc03 := HX.cell 0 3 rfl rfl
  have hc04 := HX.cell 0 4 rfl rfl
  try simp only [List.getElem_toArray, List.getElem_cons_zero, List.getElem_cons_succ] at hc00 hc01 hc02 hc03 hc04
  by_cases h3 : k = 3
  · subst h3
    obtain rfl : c = true := hc.out.trans (by simp)
    clear hc

    have z1 : ¬ 9223372036854775807 < 1 + (str T).size := by omega
    have z2 : ¬ 9223372036854775807 < 1 + (str T).size + 1 := by omega
    go_wp2_with fail
    refine (ih _ HM).mono ?_
    rintro e w5 ⟨rfl, hb5⟩
    replace HX := HX.ext hb5
    go_wp2
    go_ret
    exact ⟨by rw [show (⟨#[40]⟩ : ByteArray) = str [40] from rfl, show (⟨#[41]⟩ : ByteArray) = str [41] from rfl, str_append, str_append]; simp [Tm.parB], HX.below⟩
  · have q3 : (k == 3) = false := beq_eq_false_iff_ne.2 h3
    cases b with
    | false =>
      obtain rfl : c = false := hc.out.trans (by rw [decide_eq_false h3]; rfl)
      clear hc h3

      go_wp2_with fail
      refine (ih _ HM).mono ?_
      rintro e w5 ⟨rfl, hb5⟩
      replace HX := HX.ext hb5
      go_wp2
      go_ret
      exact ⟨rfl, HX.below⟩
    | true =>
      by_cases h2 : k = 2
      · subst h2
        obtain rfl : c = true := hc.out.trans (by simp)
        clear hc h3 q3

        have z1 : ¬ 9223372036854775807 < 1 + (str T).size := by omega
        have z2 : ¬ 9223372036854775807 < 1 + (str T).size + 1 := by omega
        go_wp2_with fail
        refine (ih _ HM).mono ?_
        rintro e w5 ⟨rfl, hb5⟩
        replace HX := HX.ext hb5
        go_wp2
        go_ret
        exact ⟨by rw [show (⟨#[40]⟩ : ByteArray) = str [40] from rfl, show (⟨#[41]⟩ : ByteArray) = str [41] from rfl, str_append, str_append]; simp [Tm.parB], HX.below⟩
      · have q2 : (k == 2) = false := beq_eq_false_iff_ne.2 h2
        obtain rfl : c = false := hc.out.trans (by rw [decide_eq_false h3, decide_eq_false h2]; rfl)
        clear hc h3 h2

        go_wp2_with fail
        refine (ih _ HM).mono ?_
        rintro e w5 ⟨rfl, hb5⟩
        replace HX := HX.ext hb5
        go_wp2
        go_ret
        exact ⟨rfl, HX.below⟩
set_option maxHeartbeats 8000000 in
set_option maxRecDepth 100000 in
theorem rtext50_any : ∀ (t : TT) (w : World), t.tm.wf → t.tm.size ≤ 1000 → t.Mem w →
    Calls Tryz.prog 98 #[t.val] w fun e w' => e = .returned (.string (str (Tm.text t.tm))) ∧ Below w.heap.size w w' := by
  refine fun t => TT.ind (P := fun t => ∀ (w : World), t.tm.wf → t.tm.size ≤ 1000 → t.Mem w → Calls Tryz.prog 98 #[t.val] w fun e w' => e = .returned (.string (str (Tm.text t.tm))) ∧ Below w.heap.size w w') (fun t ih0 w hw hs HM0 => ?_) t
  obtain ⟨k, f, o, v, A, c, ks⟩ := t
  obtain ⟨HK0, hl, HM⟩ := HM0.kids
  clear HM0
  have ih : ∀ x ∈ ks, ∀ (w : World), x.tm.wf → x.tm.size ≤ 1000 → x.Mem w → Calls Tryz.prog 98 #[x.val] w fun e w' => e = .returned (.string (str (Tm.text x.tm))) ∧ Below w.heap.size w w' := ih0
  clear ih0
  show Calls _ _ #[.agg #[.int .i64 k, .int .i64 f, .int .i64 o, .int .i64 v, .slice A ks.length c]] w _
  have hw2 := hw
  rw [TT.tm_mk, Tm.wf, Tm.wfL_iff] at hw2
  have hwk := Lib.hid (show ∀ x ∈ ks, x.tm.wf from fun x hx => hw2.2 _ (List.mem_map_of_mem hx))
  have hsk := Lib.hid (show ∀ x ∈ ks, x.tm.size ≤ 1000 from fun x hx => by have := TT.size_kid (t := TT.mk k f o v A c ks) hx; omega)
  have hkl : ks.length ≤ 1000 := by have h1 := Tm.sizeL_len (ks.map TT.tm); rw [List.length_map] at h1; rw [TT.tm_mk, Tm.size] at hs; omega
  have hsh := hw2.1
  obtain ⟨TX, hTX⟩ : ∃ T, Hid (Tm.text (TT.mk k f o v A c ks).tm = T) := ⟨_, Lib.hid rfl⟩
  have HX := BL.one w #[.int .i64 k, .int .i64 f, .int .i64 o, .int .i64 v, .slice A ks.length c] 55
  have hpl : ∀ g : Tm → List UInt8, (∀ x, (g x).length ≤ (Tm.text x).length + 2) → Hid (∀ z ∈ ks, (g z.tm).length ≤ 60002) := fun g hg => Lib.hid fun z hz => by
    have h1 := Tm.text_len z.tm (hwk.out z hz)
    have h2 := hsk.out z hz
    have h3 := hg z.tm
    omega
  clear hw2 hw hs
  rcases hsh with ⟨rfl, hf1, hf2, ho1, ho2, hv1, hv2, hks⟩ | ⟨hk, rfl, rfl, rfl, h2, _⟩ | ⟨rfl, rfl, rfl, rfl, h1⟩
  · rw [List.map_eq_nil_iff] at hks
    subst hks
    exact rtext_leaf f o v A c w hf1 hf2 ho1 ho2 hv1 hv2
  · rw [hTX.out]
    clear h2
    rcases hk with rfl | rfl
    · replace hpl := hpl Tm.andT fun x => Tm.parB_len _ _
      go_enter Tryz.func98, Tryz.ntmps98
      go_upto_region 1 with fail
      generalize w.alloc (.cells #[.int .i64 2, .int .i64 0, .int .i64 0, .int .i64 0, .slice A ks.length c] 55) = W0 at *
      have hc00 := HX.cell 0 0 rfl rfl
      have hc01 := HX.cell 0 1 rfl rfl
      have hc02 := HX.cell 0 2 rfl rfl
      have hc03 := HX.cell 0 3 rfl rfl
      have hc04 := HX.cell 0 4 rfl rfl
      try simp only [List.getElem_toArray, List.getElem_cons_zero, List.getElem_cons_succ] at hc00 hc01 hc02 hc03 hc04
      go_wp2
      go_loopg [3, 4] ks.length (fun g s i wr => ∃ (j : Nat) (T : List UInt8), j + g = ks.length ∧ i = .int .i64 (j : Int) ∧ s = .string (str T) ∧ Hid (Lib.join ((TT.pre ks j).map Tm.andT) (Tm.sepW Tm.wAnd) = T) ∧ BL w wr [(w.heap.size, #[.int .i64 2, .int .i64 0, .int .i64 0, .int .i64 0, .slice A ks.length c], 55)])
      case atStart => exact ⟨0, [], by omega, rfl, rfl, Lib.hid rfl, HX⟩
      case round =>
        clear HX hc00 hc01 hc02 hc03 hc04
        obtain ⟨j, T, hj, rfl, rfl, hT, HX⟩ := hrel
        have HK := HK0.ext HX.below
        have hTl : T.length ≤ 61000000 := by
          rw [← hT.out]
          refine Nat.le_trans (Tm.join_len (N := 60002) _ _ ?_) ?_
          · intro p hp
            obtain ⟨y, hy, rfl⟩ := List.mem_map.1 hp
            obtain ⟨z, hz, rfl⟩ := List.mem_map.1 hy
            exact hpl.out z (List.mem_of_mem_take hz)
          · rw [List.length_map, TT.pre, List.length_map, List.length_take]
            refine Nat.le_trans (Nat.mul_le_mul_right _ (show min j ks.length ≤ 1000 by omega)) (by decide)
        have hTs : (str T).size ≤ 61000000 := by rw [str_size]; exact hTl
        have hc00 := HX.cell 0 0 rfl rfl
        have hc01 := HX.cell 0 1 rfl rfl
        have hc02 := HX.cell 0 2 rfl rfl
        have hc03 := HX.cell 0 3 rfl rfl
        have hc04 := HX.cell 0 4 rfl rfl
        try simp only [List.getElem_toArray, List.getElem_cons_zero, List.getElem_cons_succ] at hc00 hc01 hc02 hc03 hc04
        by_cases hjl : j < ks.length
        · obtain ⟨x, hx⟩ : ∃ x, Hid (ks[j]? = some x) := ⟨_, Lib.hid (List.getElem?_eq_getElem hjl)⟩
          have hxm : x ∈ ks := List.mem_of_getElem? hx.out
          have HM2 : ∀ W, Below w.heap.size w W → x.Mem W := fun W hb => (HM x hxm).ext hb
          have ihx := fun W => ih x hxm W (hwk.out x hxm) (hsk.out x hxm)
          obtain ⟨Tx, hTx⟩ : ∃ T, Hid (Tm.text x.tm = T) := ⟨_, Lib.hid rfl⟩
          rw [hTx.out] at ihx
          have hTxl : Tx.length ≤ 60000 := by
            have h1 := Tm.text_len x.tm (hwk.out x hxm)
            have h2 := hsk.out x hxm
            rw [hTx.out] at h1; omega
          obtain ⟨ad, rfl, hadb, e0, e1, e2, e3, e4⟩ := HK.at_ hx.out
          obtain ⟨kx, hkx⟩ : ∃ z, Hid (x.k = z) := ⟨_, Lib.hid rfl⟩
          obtain ⟨U, hU⟩ : ∃ U, Hid (Tm.parB (decide (kx = 3)) Tx = U) := ⟨_, Lib.hid rfl⟩
          have hUs : (str U).size ≤ 60002 := by rw [str_size, ← hU.out]; exact Nat.le_trans (Tm.parB_len _ _) (by omega)
          have hgx := Lib.hid (show Tm.andT x.tm = U by rw [← hU.out, ← hTx.out, ← hkx.out, Tm.andT, TT.tm_kind])
          have hnext := Lib.hid (show Lib.join ((TT.pre ks (j + 1)).map Tm.andT) (Tm.sepW Tm.wAnd) = if j = 0 then U else T ++ (Tm.sepW Tm.wAnd ++ U) by
            rw [TT.pre_succ hx.out, List.map_append, List.map_cons, List.map_nil, Tm.join_snoc, hgx.out, hT.out]
            by_cases h0 : j = 0
            · subst h0; exact (if_pos (by rw [TT.pre_zero]; rfl)).trans (if_pos rfl).symm
            · rw [if_neg h0, if_neg (fun h => h0 (by have h2 := congrArg List.length h; rw [List.length_map, TT.pre, List.length_map, List.length_take, List.length_nil] at h2; omega))])
          have hcall : ∀ W, Below w.heap.size w W → Calls Tryz.prog 182 #[x.val, .bool false] W fun e w' => e = .returned (.string (str U)) ∧ Below W.heap.size W w' := fun W hb => by
            rw [← hU.out]; exact rinner_of x W (HM2 W hb) (Lib.hid (by rw [hkx.out]; simp)) hTxl ihx
          replace hcall := hcall wr HX.below
          clear ihx
          by_cases hj0 : j = 0
          · have hT0 := Lib.hid (show T = [] from hT.out.symm.trans (by rw [hj0]; rfl))
            replace hnext := Lib.hid (hnext.out.trans (if_pos hj0))
            have hjn : ¬ 0 < j := by omega
            have hjn1 : ¬ (0 : Int) < (j : Int) := by omega
            have hjn2 : decide ((0 : Int) < (j : Int)) = false := decide_eq_false hjn1
            replace hj0 := Lib.hid hj0
            clear hT
            have hcat := Lib.hid (show Value.string (str T ++ str U) = Value.string (str U) by rw [hT0.out]; rfl)
            have z1 : ¬ 9223372036854775807 < (str T).size + (str U).size := by omega
            go_wp2_with fail
            refine hcall.mono ?_
            rintro e w5 ⟨rfl, hb5⟩
            replace HX := HX.ext hb5
            clear hb5 hcall hc00 hc01 hc02 hc03 hc04
            go_wp2

            go_roundg (ks.length - (j + 1))
            case measure => omega
            case rel => exact ⟨j + 1, U, by omega, by go_num, hcat.out, hnext, HX⟩
          · replace hnext := Lib.hid (hnext.out.trans (if_neg hj0))
            clear hT
            have hcat := Lib.hid (show Value.string (str T ++ (⟨#[32, 97, 110, 100, 32]⟩ : ByteArray) ++ str U) = Value.string (str (T ++ (Tm.sepW Tm.wAnd ++ U))) by rw [show (⟨#[32, 97, 110, 100, 32]⟩ : ByteArray) = str (Tm.sepW Tm.wAnd) from rfl, str_append, str_append, List.append_assoc])
            have z1 : ¬ 9223372036854775807 < (str T).size + 5 := by omega
            have z2 : ¬ 9223372036854775807 < (str T).size + 5 + (str U).size := by omega
            have hj0 : 0 < j := by omega
            have hj1 : (0 : Int) < (j : Int) := by omega
            have hj2 : decide ((0 : Int) < (j : Int)) = true := decide_eq_true hj1
            go_wp2_with fail
            refine hcall.mono ?_
            rintro e w5 ⟨rfl, hb5⟩
            replace HX := HX.ext hb5
            clear hb5 hcall hc00 hc01 hc02 hc03 hc04
            go_wp2
            skip
            go_roundg (ks.length - (j + 1))
            case measure => omega
            case rel => exact ⟨j + 1, T ++ (Tm.sepW Tm.wAnd ++ U), by omega, by go_num, hcat.out, hnext, HX⟩
        · obtain rfl : j = ks.length := by omega
          have hfin := Lib.hid (show T = TX by rw [← hT.out, TT.pre_all, ← hTX.out, TT.tm_mk, Tm.text_2, Tm.textA_join])
          go_wp2
          go_ret
          exact ⟨by rw [hfin.out]; rfl, HX.below⟩
    · replace hpl := hpl Tm.text fun x => by omega
      go_enter Tryz.func98, Tryz.ntmps98
      go_upto_region 1 with fail
      generalize w.alloc (.cells #[.int .i64 3, .int .i64 0, .int .i64 0, .int .i64 0, .slice A ks.length c] 55) = W0 at *
      have hc00 := HX.cell 0 0 rfl rfl
      have hc01 := HX.cell 0 1 rfl rfl
      have hc02 := HX.cell 0 2 rfl rfl
      have hc03 := HX.cell 0 3 rfl rfl
      have hc04 := HX.cell 0 4 rfl rfl
      try simp only [List.getElem_toArray, List.getElem_cons_zero, List.getElem_cons_succ] at hc00 hc01 hc02 hc03 hc04
      go_wp2
      go_loopg [3, 4] ks.length (fun g s i wr => ∃ (j : Nat) (T : List UInt8), j + g = ks.length ∧ i = .int .i64 (j : Int) ∧ s = .string (str T) ∧ Hid (Lib.join ((TT.pre ks j).map Tm.text) (Tm.sepW Tm.wOr) = T) ∧ BL w wr [(w.heap.size, #[.int .i64 3, .int .i64 0, .int .i64 0, .int .i64 0, .slice A ks.length c], 55)])
      case atStart => exact ⟨0, [], by omega, rfl, rfl, Lib.hid rfl, HX⟩
      case round =>
        clear HX hc00 hc01 hc02 hc03 hc04
        obtain ⟨j, T, hj, rfl, rfl, hT, HX⟩ := hrel
        have HK := HK0.ext HX.below
        have hTl : T.length ≤ 61000000 := by
          rw [← hT.out]
          refine Nat.le_trans (Tm.join_len (N := 60002) _ _ ?_) ?_
          · intro p hp
            obtain ⟨y, hy, rfl⟩ := List.mem_map.1 hp
            obtain ⟨z, hz, rfl⟩ := List.mem_map.1 hy
            exact hpl.out z (List.mem_of_mem_take hz)
          · rw [List.length_map, TT.pre, List.length_map, List.length_take]
            refine Nat.le_trans (Nat.mul_le_mul_right _ (show min j ks.length ≤ 1000 by omega)) (by decide)
        have hTs : (str T).size ≤ 61000000 := by rw [str_size]; exact hTl
        have hc00 := HX.cell 0 0 rfl rfl
        have hc01 := HX.cell 0 1 rfl rfl
        have hc02 := HX.cell 0 2 rfl rfl
        have hc03 := HX.cell 0 3 rfl rfl
        have hc04 := HX.cell 0 4 rfl rfl
        try simp only [List.getElem_toArray, List.getElem_cons_zero, List.getElem_cons_succ] at hc00 hc01 hc02 hc03 hc04
        by_cases hjl : j < ks.length
        · obtain ⟨x, hx⟩ : ∃ x, Hid (ks[j]? = some x) := ⟨_, Lib.hid (List.getElem?_eq_getElem hjl)⟩
          have hxm : x ∈ ks := List.mem_of_getElem? hx.out
          have HM2 : ∀ W, Below w.heap.size w W → x.Mem W := fun W hb => (HM x hxm).ext hb
          have ihx := fun W => ih x hxm W (hwk.out x hxm) (hsk.out x hxm)
          obtain ⟨Tx, hTx⟩ : ∃ T, Hid (Tm.text x.tm = T) := ⟨_, Lib.hid rfl⟩
          rw [hTx.out] at ihx
          have hTxl : Tx.length ≤ 60000 := by
            have h1 := Tm.text_len x.tm (hwk.out x hxm)
            have h2 := hsk.out x hxm
            rw [hTx.out] at h1; omega
          obtain ⟨ad, rfl, hadb, e0, e1, e2, e3, e4⟩ := HK.at_ hx.out
          obtain ⟨kx, hkx⟩ : ∃ z, Hid (x.k = z) := ⟨_, Lib.hid rfl⟩
          obtain ⟨U, hU⟩ : ∃ U, Hid (Tx = U) := ⟨_, Lib.hid rfl⟩
          have hUs : (str U).size ≤ 60002 := by rw [str_size, ← hU.out]; omega
          have hgx := Lib.hid (show Tm.text x.tm = U by rw [← hU.out, ← hTx.out])
          have hnext := Lib.hid (show Lib.join ((TT.pre ks (j + 1)).map Tm.text) (Tm.sepW Tm.wOr) = if j = 0 then U else T ++ (Tm.sepW Tm.wOr ++ U) by
            rw [TT.pre_succ hx.out, List.map_append, List.map_cons, List.map_nil, Tm.join_snoc, hgx.out, hT.out]
            by_cases h0 : j = 0
            · subst h0; exact (if_pos (by rw [TT.pre_zero]; rfl)).trans (if_pos rfl).symm
            · rw [if_neg h0, if_neg (fun h => h0 (by have h2 := congrArg List.length h; rw [List.length_map, TT.pre, List.length_map, List.length_take, List.length_nil] at h2; omega))])
          have hcall : ∀ W, Below w.heap.size w W → Calls Tryz.prog 98 #[x.val] W fun e w' => e = .returned (.string (str U)) ∧ Below W.heap.size W w' := fun W hb => by
            rw [← hU.out]; exact ihx W (HM2 W hb)
          replace hcall := hcall wr HX.below
          clear ihx
          by_cases hj0 : j = 0
          · have hT0 := Lib.hid (show T = [] from hT.out.symm.trans (by rw [hj0]; rfl))
            replace hnext := Lib.hid (hnext.out.trans (if_pos hj0))
            have hjn : ¬ 0 < j := by omega
            have hjn1 : ¬ (0 : Int) < (j : Int) := by omega
            have hjn2 : decide ((0 : Int) < (j : Int)) = false := decide_eq_false hjn1
            replace hj0 := Lib.hid hj0
            clear hT
            have hcat := Lib.hid (show Value.string (str T ++ str U) = Value.string (str U) by rw [hT0.out]; rfl)
            have z1 : ¬ 9223372036854775807 < (str T).size + (str U).size := by omega
            go_wp2_with fail
            refine hcall.mono ?_
            rintro e w5 ⟨rfl, hb5⟩
            replace HX := HX.ext hb5
            clear hb5 hcall hc00 hc01 hc02 hc03 hc04
            go_wp2

            go_roundg (ks.length - (j + 1))
            case measure => omega
            case rel => exact ⟨j + 1, U, by omega, by go_num, hcat.out, hnext, HX⟩
          · replace hnext := Lib.hid (hnext.out.trans (if_neg hj0))
            clear hT
            have hcat := Lib.hid (show Value.string (str T ++ (⟨#[32, 111, 114, 32]⟩ : ByteArray) ++ str U) = Value.string (str (T ++ (Tm.sepW Tm.wOr ++ U))) by rw [show (⟨#[32, 111, 114, 32]⟩ : ByteArray) = str (Tm.sepW Tm.wOr) from rfl, str_append, str_append, List.append_assoc])
            have z1 : ¬ 9223372036854775807 < (str T).size + 4 := by omega
            have z2 : ¬ 9223372036854775807 < (str T).size + 4 + (str U).size := by omega
            have hj0 : 0 < j := by omega
            have hj1 : (0 : Int) < (j : Int) := by omega
            have hj2 : decide ((0 : Int) < (j : Int)) = true := decide_eq_true hj1
            go_wp2_with fail
            refine hcall.mono ?_
            rintro e w5 ⟨rfl, hb5⟩
            replace HX := HX.ext hb5
            clear hb5 hcall hc00 hc01 hc02 hc03 hc04
            go_wp2
            skip
            go_roundg (ks.length - (j + 1))
            case measure => omega
            case rel => exact ⟨j + 1, T ++ (Tm.sepW Tm.wOr ++ U), by omega, by go_num, hcat.out, hnext, HX⟩
        · obtain rfl : j = ks.length := by omega
          have hfin := Lib.hid (show T = TX by rw [← hT.out, TT.pre_all, ← hTX.out, TT.tm_mk, Tm.text_3, Tm.textO_join])
          go_wp2
          go_ret
          exact ⟨by rw [hfin.out]; rfl, HX.below⟩
  · rw [List.length_map] at h1
    replace h1 := Lib.hid h1
    rw [hTX.out]
    clear hpl
    go_enter Tryz.func98, Tryz.ntmps98
    go_upto_region 1 with fail
    generalize w.alloc (.cells #[.int .i64 4, .int .i64 0, .int .i64 0, .int .i64 0, .slice A ks.length c] 55) = W0 at *
    have hc00 := HX.cell 0 0 rfl rfl
    have hc01 := HX.cell 0 1 rfl rfl
    have hc02 := HX.cell 0 2 rfl rfl
    have hc03 := HX.cell 0 3 rfl rfl
    have hc04 := HX.cell 0 4 rfl rfl
    try simp only [List.getElem_toArray, List.getElem_cons_zero, List.getElem_cons_succ] at hc00 hc01 hc02 hc03 hc04
    obtain ⟨x, rfl⟩ := List.length_eq_one_iff.1 h1.out
    have HK := HK0.ext HX.below
    have hxm : x ∈ [x] := List.mem_singleton.2 rfl
    have ihx := fun W => ih x hxm W (hwk.out x hxm) (hsk.out x hxm)
    obtain ⟨Tx, hTx⟩ : ∃ T, Hid (Tm.text x.tm = T) := ⟨_, Lib.hid rfl⟩
    rw [hTx.out] at ihx
    have hTxl : Tx.length ≤ 60000 := by
      have h1 := Tm.text_len x.tm (hwk.out x hxm)
      have h2 := hsk.out x hxm
      rw [hTx.out] at h1; omega
    obtain ⟨ad, rfl, hadb, e0, e1, e2, e3, e4⟩ := HK.at_ (i := 0) rfl
    rw [Nat.zero_mul, show ad.add 0 = ad from rfl] at e0 e1 e2 e3 e4
    obtain ⟨U, hU⟩ : ∃ U, Hid (Tm.parB (decide (x.k = 3) || (true && decide (x.k = 2))) Tx = U) := ⟨_, Lib.hid rfl⟩
    have hUs : (str U).size ≤ 60002 := by rw [str_size, ← hU.out]; exact Nat.le_trans (Tm.parB_len _ _) (by omega)
    have z1 : ¬ 9223372036854775807 < 4 + (str U).size := by omega
    have hfin := Lib.hid (show TX = [110, 111, 116, 32] ++ U by
      rw [← hTX.out, TT.tm_mk, List.map_cons, List.map_nil, Tm.text_4, Tm.textN, ← hU.out, ← hTx.out, TT.tm_kind]
      rw [show decide (x.k = 2 ∨ x.k = 3) = (decide (x.k = 3) || (true && decide (x.k = 2))) by simp [Bool.decide_or, Bool.or_comm]]
      rfl)
    have hcall := rinner_of (b := true) (T := Tx) x W0 ((HM x hxm).ext HX.below) (Lib.hid rfl) hTxl ihx
    rw [hU.out] at hcall
    clear ihx
    go_wp2_with fail
    refine hcall.mono ?_
    rintro e w5 ⟨rfl, hb5⟩
    replace HX := HX.ext hb5
    go_wp2
    go_ret
    exact ⟨by rw [hfin.out, show (⟨#[110, 111, 116, 32]⟩ : ByteArray) = str [110, 111, 116, 32] from rfl, str_append]; rfl, HX.below⟩
set_option maxHeartbeats 4000000 in
set_option maxRecDepth 100000 in
theorem rText50_any {T : List UInt8} (t : TT) (w : World) (HM : t.Mem w) (hX : Hid ((t.tm.Ok ∧ Tm.text t.tm = T) ∨ (¬ t.tm.Ok ∧ T = []))) : Calls Tryz.prog 34 #[t.val] w fun e w' => e = .returned (.string (str T)) ∧ Below w.heap.size w w' := by
  have HX := BL.one w #[.int .i64 t.k, .int .i64 t.f, .int .i64 t.o, .int .i64 t.v, .slice t.A t.ks.length t.c] 55
  replace HM := TT.Mem.ext (below_alloc w (.cells #[.int .i64 t.k, .int .i64 t.f, .int .i64 t.o, .int .i64 t.v, .slice t.A t.ks.length t.c] 55)) HM
  show Calls _ _ #[.agg #[.int .i64 t.k, .int .i64 t.f, .int .i64 t.o, .int .i64 t.v, .slice t.A t.ks.length t.c]] w _
  go_enter Tryz.func34, Tryz.ntmps34
  go_upto_region 1 with fail
  generalize w.alloc (.cells #[.int .i64 t.k, .int .i64 t.f, .int .i64 t.o, .int .i64 t.v, .slice t.A t.ks.length t.c] 55) = W0 at *
  have hc00 := HX.cell 0 0 rfl rfl
  have hc01 := HX.cell 0 1 rfl rfl
  have hc02 := HX.cell 0 2 rfl rfl
  have hc03 := HX.cell 0 3 rfl rfl
  have hc04 := HX.cell 0 4 rfl rfl
  try simp only [List.getElem_toArray, List.getElem_cons_zero, List.getElem_cons_succ] at hc00 hc01 hc02 hc03 hc04
  by_cases hv : t.tm.Ok
  · have hx := Lib.hid (show Tm.text t.tm = T by
      rcases hX.out with ⟨_, h⟩ | ⟨h, _⟩
      · exact h
      · exact absurd hv h)
    have hwf := Lib.hid hv.1
    have hsz := hv.2.1
    have hb := yes hv
    clear hv hX
    go_wp2_with fail
    refine (rvalid50_any t W0 HM hb).mono ?_
    rintro e w4 ⟨rfl, hb4⟩
    replace HX := HX.ext hb4
    replace HM := TT.Mem.ext hb4 HM
    clear hb4 hb hc00 hc01 hc02 hc03 hc04
    have hc00 := HX.cell 0 0 rfl rfl
    have hc01 := HX.cell 0 1 rfl rfl
    have hc02 := HX.cell 0 2 rfl rfl
    have hc03 := HX.cell 0 3 rfl rfl
    have hc04 := HX.cell 0 4 rfl rfl
    try simp only [List.getElem_toArray, List.getElem_cons_zero, List.getElem_cons_succ] at hc00 hc01 hc02 hc03 hc04
    go_wp2_with fail
    refine (rtext50_any t w4 hwf.out (by omega) HM).mono ?_
    rw [hx.out]
    rintro e w5 ⟨rfl, hb5⟩
    replace HX := HX.ext hb5
    go_wp2
    go_ret
    exact ⟨rfl, HX.below⟩
  · obtain rfl : T = [] := by
      rcases hX.out with ⟨h, _⟩ | ⟨_, h⟩
      · exact absurd h hv
      · exact h
    have hb := no hv
    clear hv hX
    go_wp2_with fail
    refine (rvalid50_any t W0 HM hb).mono ?_
    rintro e w4 ⟨rfl, hb4⟩
    replace HX := HX.ext hb4
    go_wp2
    go_ret
    exact ⟨rfl, HX.below⟩
end Go.Proofs.YtolkijelldlmeaaGreatDoor

namespace Go.Proofs.YtolkijelldlmeaaGreatDoor
open Go.RowKit Go.Proofs Go

theorem Tm.PQ.text {t : Tm} {T : List UInt8} (h : Tm.text t = T) (ho : t.Ok) (hl : T.length ≤ 1000) : Tm.PQ T t 0 := by
  subst h
  exact .inr (.inr ⟨hl, _, Tm.tokR_text ho.1, .inr ⟨t, Tm.readT_toks ho.1, .inr ⟨ho, rfl, rfl⟩⟩⟩)
set_option maxHeartbeats 2000000 in
set_option maxRecDepth 100000 in
theorem rsize50_any {n : Nat} (t : TT) (w : World) (HM : t.Mem w) (hn : Hid ((t.tm.Ok ∧ n = t.tm.size) ∨ (¬ t.tm.Ok ∧ n = 0))) : Calls Tryz.prog 36 #[t.val] w (RetI w n) := by
  have HX := BL.one w #[.int .i64 t.k, .int .i64 t.f, .int .i64 t.o, .int .i64 t.v, .slice t.A t.ks.length t.c] 55
  replace HM := TT.Mem.ext HX.below HM
  show Calls _ _ #[.agg #[.int .i64 t.k, .int .i64 t.f, .int .i64 t.o, .int .i64 t.v, .slice t.A t.ks.length t.c]] w _
  go_enter Tryz.func36, Tryz.ntmps36
  go_upto_region 1 with fail
  generalize w.alloc (.cells #[.int .i64 t.k, .int .i64 t.f, .int .i64 t.o, .int .i64 t.v, .slice t.A t.ks.length t.c] 55) = W0 at *
  have hc00 := HX.cell 0 0 rfl rfl
  have hc01 := HX.cell 0 1 rfl rfl
  have hc02 := HX.cell 0 2 rfl rfl
  have hc03 := HX.cell 0 3 rfl rfl
  have hc04 := HX.cell 0 4 rfl rfl
  try simp only [List.getElem_toArray, List.getElem_cons_zero, List.getElem_cons_succ] at hc00 hc01 hc02 hc03 hc04
  by_cases hv : t.tm.Ok
  · have hx := Lib.hid (show n = t.tm.size by
      rcases hn.out with ⟨_, h⟩ | ⟨h, _⟩
      · exact h
      · exact absurd hv h)
    have hok := Lib.hid hv
    have hb := yes hv
    clear hv hn
    go_wp2_with fail
    refine (rvalid50_any t W0 HM hb).mono ?_
    rintro e w4 ⟨rfl, hb4⟩
    replace HX := HX.ext hb4
    replace HM := TT.Mem.ext hb4 HM
    clear hb4 hb hc00 hc01 hc02 hc03 hc04
    have hc00 := HX.cell 0 0 rfl rfl
    have hc01 := HX.cell 0 1 rfl rfl
    have hc02 := HX.cell 0 2 rfl rfl
    have hc03 := HX.cell 0 3 rfl rfl
    have hc04 := HX.cell 0 4 rfl rfl
    try simp only [List.getElem_toArray, List.getElem_cons_zero, List.getElem_cons_succ] at hc00 hc01 hc02 hc03 hc04
    go_wp2_with fail
    refine (rmeasure_any t 41 41 w4 (Lib.hid rfl) (by omega) HM).mono ?_
    rintro e w5 ⟨m, d, rfl, hM, hb5⟩
    have hm := Lib.hid (show m = (n : Int) by
      rcases hM.out with ⟨_, h, _⟩ | ⟨h, _⟩
      · rw [h, hx.out]
      · exact absurd ⟨hok.out.1, by have := hok.out.2.1; omega⟩ h)
    replace HX := HX.ext hb5
    go_wp2
    go_ret
    exact ⟨by rw [hm.out]; rfl, HX.below⟩
  · obtain rfl : n = 0 := by
      rcases hn.out with ⟨h, _⟩ | ⟨_, h⟩
      · exact absurd h hv
      · exact h
    have hb := no hv
    clear hv hn
    go_wp2_with fail
    refine (rvalid50_any t W0 HM hb).mono ?_
    rintro e w4 ⟨rfl, hb4⟩
    replace HX := HX.ext hb4
    go_wp2
    go_ret
    exact ⟨rfl, HX.below⟩
set_option maxHeartbeats 16000000 in
set_option maxRecDepth 100000 in
theorem texts_any (t : TT) (w : World) (hE : Env w) (hM : t.Mem w) : Calls Tryz.prog 5 #[t.val] w (RetB w true) := by
  have HX := BL.one w #[.int .i64 t.k, .int .i64 t.f, .int .i64 t.o, .int .i64 t.v, .slice t.A t.ks.length t.c] 55
  replace hM := TT.Mem.ext HX.below hM
  replace hE := hE.ext HX.below
  show Calls _ _ #[.agg #[.int .i64 t.k, .int .i64 t.f, .int .i64 t.o, .int .i64 t.v, .slice t.A t.ks.length t.c]] w _
  go_enter Tryz.func5, Tryz.ntmps5
  go_upto_region 1 with fail
  generalize w.alloc (.cells #[.int .i64 t.k, .int .i64 t.f, .int .i64 t.o, .int .i64 t.v, .slice t.A t.ks.length t.c] 55) = W0 at *
  go_wp2_with fail
  refine (qawake_any W0 hE).mono ?_
  rintro e w1 ⟨rfl, hb⟩
  replace HX := HX.ext hb
  replace hE := hE.ext hb
  replace hM := hM.ext hb
  clear hb
  by_cases hf : t.tm.size ≤ 60
  · have hc00 := HX.cell 0 0 rfl rfl
    have hc01 := HX.cell 0 1 rfl rfl
    have hc02 := HX.cell 0 2 rfl rfl
    have hc03 := HX.cell 0 3 rfl rfl
    have hc04 := HX.cell 0 4 rfl rfl
    try simp only [List.getElem_toArray, List.getElem_cons_zero, List.getElem_cons_succ] at hc00 hc01 hc02 hc03 hc04
    go_wp2_with fail
    refine (rfew_any (b := true) t w1 hM (yes hf)).mono ?_
    rintro e w2 ⟨rfl, hb⟩
    clear hc00 hc01 hc02 hc03 hc04
    replace HX := HX.ext hb
    replace hE := hE.ext hb
    replace hM := hM.ext hb
    clear hb
    clear hf
    by_cases ho : t.tm.Ok
    · have hok := Lib.hid ho
      have hvv := yes ho
      clear ho
      obtain ⟨T, hT⟩ : ∃ T, Hid (Tm.text t.tm = T) := ⟨_, Lib.hid rfl⟩
      have hTx : Hid ((t.tm.Ok ∧ Tm.text t.tm = T) ∨ (¬ t.tm.Ok ∧ T = [])) := Lib.hid (.inl ⟨hok.out, hT.out⟩)
      obtain ⟨zz, hz⟩ : ∃ z, Hid (t.tm.size = z) := ⟨_, Lib.hid rfl⟩
      have hzz : Hid ((t.tm.Ok ∧ zz = t.tm.size) ∨ (¬ t.tm.Ok ∧ zz = 0)) := Lib.hid (.inl ⟨hok.out, hz.out.symm⟩)
      have hTl : T.length ≤ 2400 := by have h1 := Tm.text_len _ hok.out.1; rw [hT.out] at h1; have := hok.out.2.1; omega
      have hTs : (str T).size = T.length := str_size T
      have hc00 := HX.cell 0 0 rfl rfl
      have hc01 := HX.cell 0 1 rfl rfl
      have hc02 := HX.cell 0 2 rfl rfl
      have hc03 := HX.cell 0 3 rfl rfl
      have hc04 := HX.cell 0 4 rfl rfl
      try simp only [List.getElem_toArray, List.getElem_cons_zero, List.getElem_cons_succ] at hc00 hc01 hc02 hc03 hc04
      go_wp2_with fail
      refine (qtext_any (T := T) t w2 hM hE.tab hTx).mono ?_
      rintro e w3 ⟨rfl, hb⟩
      clear hc00 hc01 hc02 hc03 hc04
      replace HX := HX.ext hb
      replace hE := hE.ext hb
      replace hM := hM.ext hb
      clear hb
      have hEnv := hE
      clear hE
      go_upto_region 4 with fail
      refine wp_region_x (al := []) (late := [17]) (dst := fun i => 0) (zt := fun _ => (#[], 0)) (B := w3.heap.size) (n := 17) (r := 1) (by kernel_rfl) (by kernel_rfl) (by decide) ?_ (by kernel_rfl) (by kernel_rfl) (by intro _ _ _ d _ h; cases d <;> exact h) (sz := 18) (by rfl) (by rfl) (Nat.le_refl _) ?_
      · intro i hi; cases hi
      have hE : Ext w3 w3.drew := drew_ext w3
      replace HX := HX.ext hE
      replace hM := hM.ext hE
      replace hEnv := hEnv.ext hE
      clear hE
      refine wpX_take (i := 0) (v := ?_) (by simp only [List.getElem?_toArray, List.getElem?_cons_zero]; rfl) (by kernel_rfl) (by kernel_rfl) (by kernel_rfl) (by exact fun _ _ _ h => h) (Or.inl ⟨by rfl, fun W hW => ?_⟩) ?_
      rotate_left
      · have h0 := (HX.ext hW).cell 0 0 rfl rfl
        have h1 := (HX.ext hW).cell 0 1 rfl rfl
        have h2 := (HX.ext hW).cell 0 2 rfl rfl
        have h3 := (HX.ext hW).cell 0 3 rfl rfl
        have h4 := (HX.ext hW).cell 0 4 rfl rfl
        simp only [List.getElem_toArray, List.getElem_cons_zero, List.getElem_cons_succ] at h0 h1 h2 h3 h4
        go_simp <;> (try with_reducible rfl)
      try simp only [Act.put, List.setIfInBounds_toArray, List.set_cons_zero, List.set_cons_succ]
      refine wpX_take (i := 2) (v := ?_) (by simp only [List.getElem?_toArray, List.getElem?_cons_succ, List.getElem?_cons_zero]; rfl) (by kernel_rfl) (by kernel_rfl) (by kernel_rfl) (by exact fun _ _ _ h => h) (Or.inl ⟨by rfl, fun W hW => ?_⟩) ?_
      rotate_left
      · have h0 := (HX.ext hW).cell 0 0 rfl rfl
        have h1 := (HX.ext hW).cell 0 1 rfl rfl
        have h2 := (HX.ext hW).cell 0 2 rfl rfl
        have h3 := (HX.ext hW).cell 0 3 rfl rfl
        have h4 := (HX.ext hW).cell 0 4 rfl rfl
        simp only [List.getElem_toArray, List.getElem_cons_zero, List.getElem_cons_succ] at h0 h1 h2 h3 h4
        go_simp <;> (try with_reducible rfl)
      try simp only [Act.put, List.setIfInBounds_toArray, List.set_cons_zero, List.set_cons_succ]
      refine wpX_step (i := 1) (by kernel_rfl) (by simp only [List.getElem?_toArray, List.getElem?_cons_succ, List.getElem?_cons_zero]; rfl) (fun W1 K hE hK => ?_)
      replace HX := HX.ext hE
      replace hM := hM.ext hE
      replace hEnv := hEnv.ext hE
      clear hE
      go_simp
      refine (qvalid_any (b := true) t _ hM hvv).mono ?_
      rintro e W2 ⟨rfl, hb⟩
      go_wp2_with fail
      refine hK.out _ _ hb ?_
      clear hK K
      replace HX := HX.ext hb
      replace hM := hM.ext hb
      replace hEnv := hEnv.ext hb
      clear hb
      try simp only [Act.put, List.setIfInBounds_toArray, List.set_cons_zero, List.set_cons_succ]
      skip
      refine wpX_step (i := 3) (by kernel_rfl) (by simp only [List.getElem?_toArray, List.getElem?_cons_succ, List.getElem?_cons_zero]; rfl) (fun W1 K hE hK => ?_)
      replace HX := HX.ext hE
      replace hM := hM.ext hE
      replace hEnv := hEnv.ext hE
      clear hE
      go_simp
      refine (rvalid50_any (b := true) t _ hM hvv).mono ?_
      rintro e W2 ⟨rfl, hb⟩
      go_wp2_with fail
      refine hK.out _ _ hb ?_
      clear hK K
      replace HX := HX.ext hb
      replace hM := hM.ext hb
      replace hEnv := hEnv.ext hb
      clear hb
      try simp only [Act.put, List.setIfInBounds_toArray, List.set_cons_zero, List.set_cons_succ]
      skip
      refine wpX_take (i := 4) (v := ?_) (by simp only [List.getElem?_toArray, List.getElem?_cons_succ, List.getElem?_cons_zero]; rfl) (by kernel_rfl) (by kernel_rfl) (by kernel_rfl) (by exact fun _ _ _ h => h) (Or.inl ⟨by rfl, fun W hW => ?_⟩) ?_
      rotate_left
      · go_simp <;> (try with_reducible rfl)
      try simp only [Act.put, List.setIfInBounds_toArray, List.set_cons_zero, List.set_cons_succ]
      refine wpX_take (i := 5) (v := ?_) (by simp only [List.getElem?_toArray, List.getElem?_cons_succ, List.getElem?_cons_zero]; rfl) (by kernel_rfl) (by kernel_rfl) (by kernel_rfl) (by exact fun _ _ _ h => h) (Or.inl ⟨by rfl, fun W hW => ?_⟩) ?_
      rotate_left
      · go_simp <;> (try with_reducible rfl)
      try simp only [Act.put, List.setIfInBounds_toArray, List.set_cons_zero, List.set_cons_succ]
      refine wpX_take (i := 6) (v := ?_) (by simp only [List.getElem?_toArray, List.getElem?_cons_succ, List.getElem?_cons_zero]; rfl) (by kernel_rfl) (by kernel_rfl) (by kernel_rfl) (by exact fun _ _ _ h => h) (Or.inl ⟨by rfl, fun W hW => ?_⟩) ?_
      rotate_left
      · go_simp <;> (try with_reducible rfl)
      try simp only [Act.put, List.setIfInBounds_toArray, List.set_cons_zero, List.set_cons_succ]
      refine wpX_take (i := 7) (v := ?_) (by simp only [List.getElem?_toArray, List.getElem?_cons_succ, List.getElem?_cons_zero]; rfl) (by kernel_rfl) (by kernel_rfl) (by kernel_rfl) (by exact fun _ _ _ h => h) (Or.inl ⟨by rfl, fun W hW => ?_⟩) ?_
      rotate_left
      · have h0 := (HX.ext hW).cell 0 0 rfl rfl
        have h1 := (HX.ext hW).cell 0 1 rfl rfl
        have h2 := (HX.ext hW).cell 0 2 rfl rfl
        have h3 := (HX.ext hW).cell 0 3 rfl rfl
        have h4 := (HX.ext hW).cell 0 4 rfl rfl
        simp only [List.getElem_toArray, List.getElem_cons_zero, List.getElem_cons_succ] at h0 h1 h2 h3 h4
        go_simp <;> (try with_reducible rfl)
      try simp only [Act.put, List.setIfInBounds_toArray, List.set_cons_zero, List.set_cons_succ]
      refine wpX_step (i := 8) (by kernel_rfl) (by simp only [List.getElem?_toArray, List.getElem?_cons_succ, List.getElem?_cons_zero]; rfl) (fun W1 K hE hK => ?_)
      replace HX := HX.ext hE
      replace hM := hM.ext hE
      replace hEnv := hEnv.ext hE
      clear hE
      go_simp
      refine (rText50_any (T := T) t _ hM hTx).mono ?_
      rintro e W2 ⟨rfl, hb⟩
      go_wp2_with fail
      refine hK.out _ _ hb ?_
      clear hK K
      replace HX := HX.ext hb
      replace hM := hM.ext hb
      replace hEnv := hEnv.ext hb
      clear hb
      try simp only [Act.put, List.setIfInBounds_toArray, List.set_cons_zero, List.set_cons_succ]
      skip
      refine wpX_take (i := 9) (v := ?_) (by simp only [List.getElem?_toArray, List.getElem?_cons_succ, List.getElem?_cons_zero]; rfl) (by kernel_rfl) (by kernel_rfl) (by kernel_rfl) (by exact fun _ _ _ h => h) (Or.inl ⟨by rfl, fun W hW => ?_⟩) ?_
      rotate_left
      · go_simp <;> (try with_reducible rfl)
      try simp only [Act.put, List.setIfInBounds_toArray, List.set_cons_zero, List.set_cons_succ]
      refine wpX_take (i := 10) (v := ?_) (by simp only [List.getElem?_toArray, List.getElem?_cons_succ, List.getElem?_cons_zero]; rfl) (by kernel_rfl) (by kernel_rfl) (by kernel_rfl) (by exact fun _ _ _ h => h) (Or.inl ⟨by rfl, fun W hW => ?_⟩) ?_
      rotate_left
      · go_simp <;> (try with_reducible rfl)
      try simp only [Act.put, List.setIfInBounds_toArray, List.set_cons_zero, List.set_cons_succ]
      refine wpX_take (i := 11) (v := ?_) (by simp only [List.getElem?_toArray, List.getElem?_cons_succ, List.getElem?_cons_zero]; rfl) (by kernel_rfl) (by kernel_rfl) (by kernel_rfl) (by exact fun _ _ _ h => h) (Or.inl ⟨by rfl, fun W hW => ?_⟩) ?_
      rotate_left
      · go_simp <;> (try with_reducible rfl)
      try simp only [Act.put, List.setIfInBounds_toArray, List.set_cons_zero, List.set_cons_succ]
      refine wpX_take (i := 12) (v := ?_) (by simp only [List.getElem?_toArray, List.getElem?_cons_succ, List.getElem?_cons_zero]; rfl) (by kernel_rfl) (by kernel_rfl) (by kernel_rfl) (by exact fun _ _ _ h => h) (Or.inl ⟨by rfl, fun W hW => ?_⟩) ?_
      rotate_left
      · have h0 := (HX.ext hW).cell 0 0 rfl rfl
        have h1 := (HX.ext hW).cell 0 1 rfl rfl
        have h2 := (HX.ext hW).cell 0 2 rfl rfl
        have h3 := (HX.ext hW).cell 0 3 rfl rfl
        have h4 := (HX.ext hW).cell 0 4 rfl rfl
        simp only [List.getElem_toArray, List.getElem_cons_zero, List.getElem_cons_succ] at h0 h1 h2 h3 h4
        go_simp <;> (try with_reducible rfl)
      try simp only [Act.put, List.setIfInBounds_toArray, List.set_cons_zero, List.set_cons_succ]
      refine wpX_take (i := 14) (v := ?_) (by simp only [List.getElem?_toArray, List.getElem?_cons_succ, List.getElem?_cons_zero]; rfl) (by kernel_rfl) (by kernel_rfl) (by kernel_rfl) (by exact fun _ _ _ h => h) (Or.inl ⟨by rfl, fun W hW => ?_⟩) ?_
      rotate_left
      · have h0 := (HX.ext hW).cell 0 0 rfl rfl
        have h1 := (HX.ext hW).cell 0 1 rfl rfl
        have h2 := (HX.ext hW).cell 0 2 rfl rfl
        have h3 := (HX.ext hW).cell 0 3 rfl rfl
        have h4 := (HX.ext hW).cell 0 4 rfl rfl
        simp only [List.getElem_toArray, List.getElem_cons_zero, List.getElem_cons_succ] at h0 h1 h2 h3 h4
        go_simp <;> (try with_reducible rfl)
      try simp only [Act.put, List.setIfInBounds_toArray, List.set_cons_zero, List.set_cons_succ]
      refine wpX_step (i := 13) (by kernel_rfl) (by simp only [List.getElem?_toArray, List.getElem?_cons_succ, List.getElem?_cons_zero]; rfl) (fun W1 K hE hK => ?_)
      replace HX := HX.ext hE
      replace hM := hM.ext hE
      replace hEnv := hEnv.ext hE
      clear hE
      go_simp
      refine (qSize_any (n := zz) t _ hM hzz).mono ?_
      rintro e W2 ⟨rfl, hb⟩
      go_wp2_with fail
      refine hK.out _ _ hb ?_
      clear hK K
      replace HX := HX.ext hb
      replace hM := hM.ext hb
      replace hEnv := hEnv.ext hb
      clear hb
      try simp only [Act.put, List.setIfInBounds_toArray, List.set_cons_zero, List.set_cons_succ]
      skip
      refine wpX_step (i := 15) (by kernel_rfl) (by simp only [List.getElem?_toArray, List.getElem?_cons_succ, List.getElem?_cons_zero]; rfl) (fun W1 K hE hK => ?_)
      replace HX := HX.ext hE
      replace hM := hM.ext hE
      replace hEnv := hEnv.ext hE
      clear hE
      go_simp
      refine (rsize50_any (n := zz) t _ hM hzz).mono ?_
      rintro e W2 ⟨rfl, hb⟩
      go_wp2_with fail
      refine hK.out _ _ hb ?_
      clear hK K
      replace HX := HX.ext hb
      replace hM := hM.ext hb
      replace hEnv := hEnv.ext hb
      clear hb
      try simp only [Act.put, List.setIfInBounds_toArray, List.set_cons_zero, List.set_cons_succ]
      skip
      refine wpX_take (i := 16) (v := ?_) (by simp only [List.getElem?_toArray, List.getElem?_cons_succ, List.getElem?_cons_zero]; rfl) (by kernel_rfl) (by kernel_rfl) (by kernel_rfl) (by exact fun _ _ _ h => h) (Or.inl ⟨by rfl, fun W hW => ?_⟩) ?_
      rotate_left
      · go_simp <;> (try with_reducible rfl)
      try simp only [Act.put, List.setIfInBounds_toArray, List.set_cons_zero, List.set_cons_succ]
      refine wpX_end (by kernel_rfl) (fun W12 ga m hE hg hm => ?_)
      replace HX := HX.ext hE
      replace hM := hM.ext hE
      replace hEnv := hEnv.ext hE
      clear hE
      clear hg
      simp only [putAll, setAll]
      try clear ga
      refine wpAny_step (i := 17) (by kernel_rfl) (by simp only [List.getElem?_toArray, List.getElem?_cons_succ, List.getElem?_cons_zero]; rfl) (by omega) (fun K hK => ?_)
      go_simp
      refine hK.out _ _ ?_
      clear hK K
      refine wpAny_done (by kernel_rfl) ?_ _
      have hE := hEnv
      clear hEnv
      by_cases hl : T.length ≤ 1000
      · have hls : ¬ 1000 < (str T).size := by omega
        have hli : ¬ (1000 : Int) < (((str T).size : Nat) : Int) := by omega
        have hld : decide ((1000 : Int) < (((str T).size : Nat) : Int)) = false := decide_eq_false hli
        have hPQ := Lib.hid (Tm.PQ.text (show Tm.text t.tm = T from hT.out) hok.out hl)
        clear hl
        go_wp2_with fail
        refine (qparse_any (L := T) W12 hPQ hE (by omega)).mono ?_
        rintro e w4 ⟨u, he, hum, hut, hb⟩
        obtain ⟨ku, fu, ou, vu, Au, cu, us⟩ := u
        change e = .returned (.tuple #[.agg #[.int .i64 ku, .int .i64 fu, .int .i64 ou, .int .i64 vu, .slice Au us.length cu], .int .i64 0]) at he
        subst he
        replace HX := HX.ext hb
        replace hE := hE.ext hb
        replace hM := hM.ext hb
        clear hb
        go_upto_region 7 with fail
        have hb := below_alloc w4 (.cells #[.int .i64 ku, .int .i64 fu, .int .i64 ou, .int .i64 vu, .slice Au us.length cu] 55)
        replace HX := HX.new #[.int .i64 ku, .int .i64 fu, .int .i64 ou, .int .i64 vu, .slice Au us.length cu] 55
        simp only [List.nil_append, List.cons_append] at HX
        replace hE := hE.ext hb
        replace hM := hM.ext hb
        replace hum := hum.ext hb
        clear hb
        generalize w4.alloc (.cells #[.int .i64 ku, .int .i64 fu, .int .i64 ou, .int .i64 vu, .slice Au us.length cu] 55) = W4 at *
        generalize w4.heap.size = g4 at *
        replace hut := Lib.hid hut
        have huf : Tells true ((TT.mk ku fu ou vu Au cu us).tm.size ≤ 60) := yes (by rw [hut.out]; have h1 := hok.out.2.1; omega)
        have hc00 := HX.cell 0 0 rfl rfl
        have hc01 := HX.cell 0 1 rfl rfl
        have hc02 := HX.cell 0 2 rfl rfl
        have hc03 := HX.cell 0 3 rfl rfl
        have hc04 := HX.cell 0 4 rfl rfl
        try simp only [List.getElem_toArray, List.getElem_cons_zero, List.getElem_cons_succ] at hc00 hc01 hc02 hc03 hc04
        go_wp2_with fail
        refine (rvalid50_any (b := true) t W4 hM (yes hok.out)).mono ?_
        rintro e w5 ⟨rfl, hb⟩
        clear hc00 hc01 hc02 hc03 hc04
        replace HX := HX.ext hb
        replace hE := hE.ext hb
        replace hM := hM.ext hb
        replace hum := hum.ext hb
        clear hb
        have hc10 := HX.cell 1 0 rfl rfl
        have hc11 := HX.cell 1 1 rfl rfl
        have hc12 := HX.cell 1 2 rfl rfl
        have hc13 := HX.cell 1 3 rfl rfl
        have hc14 := HX.cell 1 4 rfl rfl
        try simp only [List.getElem_toArray, List.getElem_cons_zero, List.getElem_cons_succ] at hc10 hc11 hc12 hc13 hc14
        go_wp2_with fail
        refine (rfew_any (b := true) (TT.mk ku fu ou vu Au cu us) w5 hum huf).mono ?_
        rintro e w6 ⟨rfl, hb⟩
        clear hc10 hc11 hc12 hc13 hc14
        replace HX := HX.ext hb
        replace hE := hE.ext hb
        replace hM := hM.ext hb
        replace hum := hum.ext hb
        clear hb
        have hc10 := HX.cell 1 0 rfl rfl
        have hc11 := HX.cell 1 1 rfl rfl
        have hc12 := HX.cell 1 2 rfl rfl
        have hc13 := HX.cell 1 3 rfl rfl
        have hc14 := HX.cell 1 4 rfl rfl
        try simp only [List.getElem_toArray, List.getElem_cons_zero, List.getElem_cons_succ] at hc10 hc11 hc12 hc13 hc14
        have hc00 := HX.cell 0 0 rfl rfl
        have hc01 := HX.cell 0 1 rfl rfl
        have hc02 := HX.cell 0 2 rfl rfl
        have hc03 := HX.cell 0 3 rfl rfl
        have hc04 := HX.cell 0 4 rfl rfl
        try simp only [List.getElem_toArray, List.getElem_cons_zero, List.getElem_cons_succ] at hc00 hc01 hc02 hc03 hc04
        go_wp2_with fail
        refine (rsame_any (TT.mk ku fu ou vu Au cu us) t true w6 hum hM (yes hut.out)).mono ?_
        rintro e w7 ⟨rfl, hb⟩
        clear hc10 hc11 hc12 hc13 hc14
        clear hc00 hc01 hc02 hc03 hc04
        replace HX := HX.ext hb
        replace hE := hE.ext hb
        replace hM := hM.ext hb
        replace hum := hum.ext hb
        clear hb
        go_wp2
        go_ret
        exact ⟨rfl, HX.below⟩
      · have hls : 1000 < (str T).size := by omega
        have hli : (1000 : Int) < (((str T).size : Nat) : Int) := by omega
        have hld : decide ((1000 : Int) < (((str T).size : Nat) : Int)) = true := decide_eq_true hli
        have hPQ := Lib.hid (show Tm.PQ T (.mk 0 0 0 0 []) 6 from .inl ⟨by omega, rfl, rfl⟩)
        clear hl
        go_wp2_with fail
        refine (qparse_any (L := T) W12 hPQ hE (by omega)).mono ?_
        rintro e w4 ⟨u, he, hum, hut, hb⟩
        obtain ⟨ku, fu, ou, vu, Au, cu, us⟩ := u
        change e = .returned (.tuple #[.agg #[.int .i64 ku, .int .i64 fu, .int .i64 ou, .int .i64 vu, .slice Au us.length cu], .int .i64 6]) at he
        subst he
        replace HX := HX.ext hb
        replace hE := hE.ext hb
        replace hM := hM.ext hb
        clear hb
        go_upto_region 7 with fail
        have hb := below_alloc w4 (.cells #[.int .i64 ku, .int .i64 fu, .int .i64 ou, .int .i64 vu, .slice Au us.length cu] 55)
        replace HX := HX.new #[.int .i64 ku, .int .i64 fu, .int .i64 ou, .int .i64 vu, .slice Au us.length cu] 55
        simp only [List.nil_append, List.cons_append] at HX
        replace hE := hE.ext hb
        replace hM := hM.ext hb
        replace hum := hum.ext hb
        clear hb
        generalize w4.alloc (.cells #[.int .i64 ku, .int .i64 fu, .int .i64 ou, .int .i64 vu, .slice Au us.length cu] 55) = W4 at *
        generalize w4.heap.size = g4 at *
        clear hut
        have hc00 := HX.cell 0 0 rfl rfl
        have hc01 := HX.cell 0 1 rfl rfl
        have hc02 := HX.cell 0 2 rfl rfl
        have hc03 := HX.cell 0 3 rfl rfl
        have hc04 := HX.cell 0 4 rfl rfl
        try simp only [List.getElem_toArray, List.getElem_cons_zero, List.getElem_cons_succ] at hc00 hc01 hc02 hc03 hc04
        go_wp2_with fail
        refine (rvalid50_any (b := true) t W4 hM (yes hok.out)).mono ?_
        rintro e w5 ⟨rfl, hb⟩
        clear hc00 hc01 hc02 hc03 hc04
        replace HX := HX.ext hb
        replace hE := hE.ext hb
        replace hM := hM.ext hb
        replace hum := hum.ext hb
        clear hb
        go_wp2
        go_ret
        exact ⟨rfl, HX.below⟩
    · have hvv := no ho
      have hno := Lib.hid ho
      clear ho
      obtain ⟨T, hT⟩ : ∃ T : List UInt8, Hid (T = []) := ⟨_, Lib.hid rfl⟩
      have hTx : Hid ((t.tm.Ok ∧ Tm.text t.tm = T) ∨ (¬ t.tm.Ok ∧ T = [])) := Lib.hid (.inr ⟨hno.out, hT.out⟩)
      obtain ⟨zz, hz⟩ : ∃ z, Hid (z = 0) := ⟨_, Lib.hid rfl⟩
      have hzz : Hid ((t.tm.Ok ∧ zz = t.tm.size) ∨ (¬ t.tm.Ok ∧ zz = 0)) := Lib.hid (.inr ⟨hno.out, hz.out⟩)
      have hc00 := HX.cell 0 0 rfl rfl
      have hc01 := HX.cell 0 1 rfl rfl
      have hc02 := HX.cell 0 2 rfl rfl
      have hc03 := HX.cell 0 3 rfl rfl
      have hc04 := HX.cell 0 4 rfl rfl
      try simp only [List.getElem_toArray, List.getElem_cons_zero, List.getElem_cons_succ] at hc00 hc01 hc02 hc03 hc04
      go_wp2_with fail
      refine (qtext_any (T := T) t w2 hM hE.tab hTx).mono ?_
      rintro e w3 ⟨rfl, hb⟩
      clear hc00 hc01 hc02 hc03 hc04
      replace HX := HX.ext hb
      replace hE := hE.ext hb
      replace hM := hM.ext hb
      clear hb
      have hEnv := hE
      clear hE
      go_upto_region 4 with fail
      refine wp_region_x (al := []) (late := [17]) (dst := fun i => 0) (zt := fun _ => (#[], 0)) (B := w3.heap.size) (n := 17) (r := 1) (by kernel_rfl) (by kernel_rfl) (by decide) ?_ (by kernel_rfl) (by kernel_rfl) (by intro _ _ _ d _ h; cases d <;> exact h) (sz := 18) (by rfl) (by rfl) (Nat.le_refl _) ?_
      · intro i hi; cases hi
      have hE : Ext w3 w3.drew := drew_ext w3
      replace HX := HX.ext hE
      replace hM := hM.ext hE
      replace hEnv := hEnv.ext hE
      clear hE
      refine wpX_take (i := 0) (v := ?_) (by simp only [List.getElem?_toArray, List.getElem?_cons_zero]; rfl) (by kernel_rfl) (by kernel_rfl) (by kernel_rfl) (by exact fun _ _ _ h => h) (Or.inl ⟨by rfl, fun W hW => ?_⟩) ?_
      rotate_left
      · have h0 := (HX.ext hW).cell 0 0 rfl rfl
        have h1 := (HX.ext hW).cell 0 1 rfl rfl
        have h2 := (HX.ext hW).cell 0 2 rfl rfl
        have h3 := (HX.ext hW).cell 0 3 rfl rfl
        have h4 := (HX.ext hW).cell 0 4 rfl rfl
        simp only [List.getElem_toArray, List.getElem_cons_zero, List.getElem_cons_succ] at h0 h1 h2 h3 h4
        go_simp <;> (try with_reducible rfl)
      try simp only [Act.put, List.setIfInBounds_toArray, List.set_cons_zero, List.set_cons_succ]
      refine wpX_take (i := 2) (v := ?_) (by simp only [List.getElem?_toArray, List.getElem?_cons_succ, List.getElem?_cons_zero]; rfl) (by kernel_rfl) (by kernel_rfl) (by kernel_rfl) (by exact fun _ _ _ h => h) (Or.inl ⟨by rfl, fun W hW => ?_⟩) ?_
      rotate_left
      · have h0 := (HX.ext hW).cell 0 0 rfl rfl
        have h1 := (HX.ext hW).cell 0 1 rfl rfl
        have h2 := (HX.ext hW).cell 0 2 rfl rfl
        have h3 := (HX.ext hW).cell 0 3 rfl rfl
        have h4 := (HX.ext hW).cell 0 4 rfl rfl
        simp only [List.getElem_toArray, List.getElem_cons_zero, List.getElem_cons_succ] at h0 h1 h2 h3 h4
        go_simp <;> (try with_reducible rfl)
      try simp only [Act.put, List.setIfInBounds_toArray, List.set_cons_zero, List.set_cons_succ]
      refine wpX_step (i := 1) (by kernel_rfl) (by simp only [List.getElem?_toArray, List.getElem?_cons_succ, List.getElem?_cons_zero]; rfl) (fun W1 K hE hK => ?_)
      replace HX := HX.ext hE
      replace hM := hM.ext hE
      replace hEnv := hEnv.ext hE
      clear hE
      go_simp
      refine (qvalid_any (b := false) t _ hM hvv).mono ?_
      rintro e W2 ⟨rfl, hb⟩
      go_wp2_with fail
      refine hK.out _ _ hb ?_
      clear hK K
      replace HX := HX.ext hb
      replace hM := hM.ext hb
      replace hEnv := hEnv.ext hb
      clear hb
      try simp only [Act.put, List.setIfInBounds_toArray, List.set_cons_zero, List.set_cons_succ]
      skip
      refine wpX_step (i := 3) (by kernel_rfl) (by simp only [List.getElem?_toArray, List.getElem?_cons_succ, List.getElem?_cons_zero]; rfl) (fun W1 K hE hK => ?_)
      replace HX := HX.ext hE
      replace hM := hM.ext hE
      replace hEnv := hEnv.ext hE
      clear hE
      go_simp
      refine (rvalid50_any (b := false) t _ hM hvv).mono ?_
      rintro e W2 ⟨rfl, hb⟩
      go_wp2_with fail
      refine hK.out _ _ hb ?_
      clear hK K
      replace HX := HX.ext hb
      replace hM := hM.ext hb
      replace hEnv := hEnv.ext hb
      clear hb
      try simp only [Act.put, List.setIfInBounds_toArray, List.set_cons_zero, List.set_cons_succ]
      skip
      refine wpX_take (i := 4) (v := ?_) (by simp only [List.getElem?_toArray, List.getElem?_cons_succ, List.getElem?_cons_zero]; rfl) (by kernel_rfl) (by kernel_rfl) (by kernel_rfl) (by exact fun _ _ _ h => h) (Or.inl ⟨by rfl, fun W hW => ?_⟩) ?_
      rotate_left
      · go_simp <;> (try with_reducible rfl)
      try simp only [Act.put, List.setIfInBounds_toArray, List.set_cons_zero, List.set_cons_succ]
      refine wpX_take (i := 5) (v := ?_) (by simp only [List.getElem?_toArray, List.getElem?_cons_succ, List.getElem?_cons_zero]; rfl) (by kernel_rfl) (by kernel_rfl) (by kernel_rfl) (by exact fun _ _ _ h => h) (Or.inl ⟨by rfl, fun W hW => ?_⟩) ?_
      rotate_left
      · go_simp <;> (try with_reducible rfl)
      try simp only [Act.put, List.setIfInBounds_toArray, List.set_cons_zero, List.set_cons_succ]
      refine wpX_take (i := 6) (v := ?_) (by simp only [List.getElem?_toArray, List.getElem?_cons_succ, List.getElem?_cons_zero]; rfl) (by kernel_rfl) (by kernel_rfl) (by kernel_rfl) (by exact fun _ _ _ h => h) (Or.inl ⟨by rfl, fun W hW => ?_⟩) ?_
      rotate_left
      · go_simp <;> (try with_reducible rfl)
      try simp only [Act.put, List.setIfInBounds_toArray, List.set_cons_zero, List.set_cons_succ]
      refine wpX_take (i := 7) (v := ?_) (by simp only [List.getElem?_toArray, List.getElem?_cons_succ, List.getElem?_cons_zero]; rfl) (by kernel_rfl) (by kernel_rfl) (by kernel_rfl) (by exact fun _ _ _ h => h) (Or.inl ⟨by rfl, fun W hW => ?_⟩) ?_
      rotate_left
      · have h0 := (HX.ext hW).cell 0 0 rfl rfl
        have h1 := (HX.ext hW).cell 0 1 rfl rfl
        have h2 := (HX.ext hW).cell 0 2 rfl rfl
        have h3 := (HX.ext hW).cell 0 3 rfl rfl
        have h4 := (HX.ext hW).cell 0 4 rfl rfl
        simp only [List.getElem_toArray, List.getElem_cons_zero, List.getElem_cons_succ] at h0 h1 h2 h3 h4
        go_simp <;> (try with_reducible rfl)
      try simp only [Act.put, List.setIfInBounds_toArray, List.set_cons_zero, List.set_cons_succ]
      refine wpX_step (i := 8) (by kernel_rfl) (by simp only [List.getElem?_toArray, List.getElem?_cons_succ, List.getElem?_cons_zero]; rfl) (fun W1 K hE hK => ?_)
      replace HX := HX.ext hE
      replace hM := hM.ext hE
      replace hEnv := hEnv.ext hE
      clear hE
      go_simp
      refine (rText50_any (T := T) t _ hM hTx).mono ?_
      rintro e W2 ⟨rfl, hb⟩
      go_wp2_with fail
      refine hK.out _ _ hb ?_
      clear hK K
      replace HX := HX.ext hb
      replace hM := hM.ext hb
      replace hEnv := hEnv.ext hb
      clear hb
      try simp only [Act.put, List.setIfInBounds_toArray, List.set_cons_zero, List.set_cons_succ]
      skip
      refine wpX_take (i := 9) (v := ?_) (by simp only [List.getElem?_toArray, List.getElem?_cons_succ, List.getElem?_cons_zero]; rfl) (by kernel_rfl) (by kernel_rfl) (by kernel_rfl) (by exact fun _ _ _ h => h) (Or.inl ⟨by rfl, fun W hW => ?_⟩) ?_
      rotate_left
      · go_simp <;> (try with_reducible rfl)
      try simp only [Act.put, List.setIfInBounds_toArray, List.set_cons_zero, List.set_cons_succ]
      refine wpX_take (i := 10) (v := ?_) (by simp only [List.getElem?_toArray, List.getElem?_cons_succ, List.getElem?_cons_zero]; rfl) (by kernel_rfl) (by kernel_rfl) (by kernel_rfl) (by exact fun _ _ _ h => h) (Or.inl ⟨by rfl, fun W hW => ?_⟩) ?_
      rotate_left
      · go_simp <;> (try with_reducible rfl)
      try simp only [Act.put, List.setIfInBounds_toArray, List.set_cons_zero, List.set_cons_succ]
      refine wpX_take (i := 11) (v := ?_) (by simp only [List.getElem?_toArray, List.getElem?_cons_succ, List.getElem?_cons_zero]; rfl) (by kernel_rfl) (by kernel_rfl) (by kernel_rfl) (by exact fun _ _ _ h => h) (Or.inl ⟨by rfl, fun W hW => ?_⟩) ?_
      rotate_left
      · go_simp <;> (try with_reducible rfl)
      try simp only [Act.put, List.setIfInBounds_toArray, List.set_cons_zero, List.set_cons_succ]
      refine wpX_take (i := 12) (v := ?_) (by simp only [List.getElem?_toArray, List.getElem?_cons_succ, List.getElem?_cons_zero]; rfl) (by kernel_rfl) (by kernel_rfl) (by kernel_rfl) (by exact fun _ _ _ h => h) (Or.inl ⟨by rfl, fun W hW => ?_⟩) ?_
      rotate_left
      · have h0 := (HX.ext hW).cell 0 0 rfl rfl
        have h1 := (HX.ext hW).cell 0 1 rfl rfl
        have h2 := (HX.ext hW).cell 0 2 rfl rfl
        have h3 := (HX.ext hW).cell 0 3 rfl rfl
        have h4 := (HX.ext hW).cell 0 4 rfl rfl
        simp only [List.getElem_toArray, List.getElem_cons_zero, List.getElem_cons_succ] at h0 h1 h2 h3 h4
        go_simp <;> (try with_reducible rfl)
      try simp only [Act.put, List.setIfInBounds_toArray, List.set_cons_zero, List.set_cons_succ]
      refine wpX_take (i := 14) (v := ?_) (by simp only [List.getElem?_toArray, List.getElem?_cons_succ, List.getElem?_cons_zero]; rfl) (by kernel_rfl) (by kernel_rfl) (by kernel_rfl) (by exact fun _ _ _ h => h) (Or.inl ⟨by rfl, fun W hW => ?_⟩) ?_
      rotate_left
      · have h0 := (HX.ext hW).cell 0 0 rfl rfl
        have h1 := (HX.ext hW).cell 0 1 rfl rfl
        have h2 := (HX.ext hW).cell 0 2 rfl rfl
        have h3 := (HX.ext hW).cell 0 3 rfl rfl
        have h4 := (HX.ext hW).cell 0 4 rfl rfl
        simp only [List.getElem_toArray, List.getElem_cons_zero, List.getElem_cons_succ] at h0 h1 h2 h3 h4
        go_simp <;> (try with_reducible rfl)
      try simp only [Act.put, List.setIfInBounds_toArray, List.set_cons_zero, List.set_cons_succ]
      refine wpX_step (i := 13) (by kernel_rfl) (by simp only [List.getElem?_toArray, List.getElem?_cons_succ, List.getElem?_cons_zero]; rfl) (fun W1 K hE hK => ?_)
      replace HX := HX.ext hE
      replace hM := hM.ext hE
      replace hEnv := hEnv.ext hE
      clear hE
      go_simp
      refine (qSize_any (n := zz) t _ hM hzz).mono ?_
      rintro e W2 ⟨rfl, hb⟩
      go_wp2_with fail
      refine hK.out _ _ hb ?_
      clear hK K
      replace HX := HX.ext hb
      replace hM := hM.ext hb
      replace hEnv := hEnv.ext hb
      clear hb
      try simp only [Act.put, List.setIfInBounds_toArray, List.set_cons_zero, List.set_cons_succ]
      skip
      refine wpX_step (i := 15) (by kernel_rfl) (by simp only [List.getElem?_toArray, List.getElem?_cons_succ, List.getElem?_cons_zero]; rfl) (fun W1 K hE hK => ?_)
      replace HX := HX.ext hE
      replace hM := hM.ext hE
      replace hEnv := hEnv.ext hE
      clear hE
      go_simp
      refine (rsize50_any (n := zz) t _ hM hzz).mono ?_
      rintro e W2 ⟨rfl, hb⟩
      go_wp2_with fail
      refine hK.out _ _ hb ?_
      clear hK K
      replace HX := HX.ext hb
      replace hM := hM.ext hb
      replace hEnv := hEnv.ext hb
      clear hb
      try simp only [Act.put, List.setIfInBounds_toArray, List.set_cons_zero, List.set_cons_succ]
      skip
      refine wpX_take (i := 16) (v := ?_) (by simp only [List.getElem?_toArray, List.getElem?_cons_succ, List.getElem?_cons_zero]; rfl) (by kernel_rfl) (by kernel_rfl) (by kernel_rfl) (by exact fun _ _ _ h => h) (Or.inl ⟨by rfl, fun W hW => ?_⟩) ?_
      rotate_left
      · go_simp <;> (try with_reducible rfl)
      try simp only [Act.put, List.setIfInBounds_toArray, List.set_cons_zero, List.set_cons_succ]
      refine wpX_end (by kernel_rfl) (fun W12 ga m hE hg hm => ?_)
      replace HX := HX.ext hE
      replace hM := hM.ext hE
      replace hEnv := hEnv.ext hE
      clear hE
      clear hg
      simp only [putAll, setAll]
      try clear ga
      refine wpAny_step (i := 17) (by kernel_rfl) (by simp only [List.getElem?_toArray, List.getElem?_cons_succ, List.getElem?_cons_zero]; rfl) (by omega) (fun K hK => ?_)
      go_simp
      refine hK.out _ _ ?_
      clear hK K
      refine wpAny_done (by kernel_rfl) ?_ _
      have hE := hEnv
      clear hEnv
      have hPQ := Lib.hid (show Tm.PQ T (.mk 0 0 0 0 []) 3 by rw [hT.out]; exact .inr (.inr ⟨by decide, [], Tm.tokR_nil, .inl ⟨by first | decide | rfl | (rw [Tm.readT]; decide), rfl, rfl⟩⟩))
      have heq : ((str T).toList == []) = true := by rw [hT.out, str_toList]; rfl
      go_wp2_with fail
      refine (qparse_any (L := T) W12 hPQ hE (by rw [hT.out]; decide)).mono ?_
      rintro e w4 ⟨u, he, hum, hut, hb⟩
      obtain ⟨ku, fu, ou, vu, Au, cu, us⟩ := u
      change e = .returned (.tuple #[.agg #[.int .i64 ku, .int .i64 fu, .int .i64 ou, .int .i64 vu, .slice Au us.length cu], .int .i64 3]) at he
      subst he
      replace HX := HX.ext hb
      replace hE := hE.ext hb
      replace hM := hM.ext hb
      clear hb
      go_upto_region 7 with fail
      have hb := below_alloc w4 (.cells #[.int .i64 ku, .int .i64 fu, .int .i64 ou, .int .i64 vu, .slice Au us.length cu] 55)
      replace HX := HX.new #[.int .i64 ku, .int .i64 fu, .int .i64 ou, .int .i64 vu, .slice Au us.length cu] 55
      simp only [List.nil_append, List.cons_append] at HX
      replace hE := hE.ext hb
      replace hM := hM.ext hb
      replace hum := hum.ext hb
      clear hb
      generalize w4.alloc (.cells #[.int .i64 ku, .int .i64 fu, .int .i64 ou, .int .i64 vu, .slice Au us.length cu] 55) = W4 at *
      generalize w4.heap.size = g4 at *
      clear hut
      have hc00 := HX.cell 0 0 rfl rfl
      have hc01 := HX.cell 0 1 rfl rfl
      have hc02 := HX.cell 0 2 rfl rfl
      have hc03 := HX.cell 0 3 rfl rfl
      have hc04 := HX.cell 0 4 rfl rfl
      try simp only [List.getElem_toArray, List.getElem_cons_zero, List.getElem_cons_succ] at hc00 hc01 hc02 hc03 hc04
      go_wp2_with fail
      refine (rvalid50_any (b := false) t W4 hM hvv).mono ?_
      rintro e w5 ⟨rfl, hb⟩
      clear hc00 hc01 hc02 hc03 hc04
      replace HX := HX.ext hb
      replace hE := hE.ext hb
      replace hM := hM.ext hb
      replace hum := hum.ext hb
      clear hb
      go_wp2
      go_ret
      exact ⟨by first | rfl | (rw [heq]; rfl), HX.below⟩
  · have hc00 := HX.cell 0 0 rfl rfl
    have hc01 := HX.cell 0 1 rfl rfl
    have hc02 := HX.cell 0 2 rfl rfl
    have hc03 := HX.cell 0 3 rfl rfl
    have hc04 := HX.cell 0 4 rfl rfl
    try simp only [List.getElem_toArray, List.getElem_cons_zero, List.getElem_cons_succ] at hc00 hc01 hc02 hc03 hc04
    go_wp2_with fail
    refine (rfew_any (b := false) t w1 hM (no hf)).mono ?_
    rintro e w2 ⟨rfl, hb⟩
    clear hc00 hc01 hc02 hc03 hc04
    replace HX := HX.ext hb
    replace hE := hE.ext hb
    replace hM := hM.ext hb
    clear hb
    clear hf
    go_wp2_with fail
    refine (qawake_any w2 hE).mono ?_
    rintro e w3 ⟨rfl, hb⟩
    replace HX := HX.ext hb
    replace hE := hE.ext hb
    replace hM := hM.ext hb
    clear hb
    go_wp2
    go_ret
    exact ⟨rfl, HX.below⟩
end Go.Proofs.YtolkijelldlmeaaGreatDoor
