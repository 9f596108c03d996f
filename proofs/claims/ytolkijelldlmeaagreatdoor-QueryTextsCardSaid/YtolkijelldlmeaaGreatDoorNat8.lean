/- The package natural, eighth part: the exported functions Cmp, Add, Mul, Sub. Printed by gen8.py. -/
import Derived.Test.YtolkijelldlmeaaGreatDoorNat7
import Derived.Test.YtolkijelldlmeaaGreatDoorBox
namespace Go.Proofs.YtolkijelldlmeaaGreatDoor
open Go.RowKit Go.Proofs

theorem dig_len_of {l : List Nat} {n : Nat} (hs : ∀ j, at_ l j < 4294967296) (hn : n = l.length) : (dig (val l)).length ≤ n + 1 := by
  subst hn
  refine dig_len_le ?_
  have key : ∀ l : List Nat, (∀ j, at_ l j < 4294967296) → 999999999 * val l + 4294967295 ≤ 4294967295 * pw l.length := by
    intro l
    induction l with
    | nil => intro _; rw [val_nil, List.length_nil, pw_zero]; omega
    | cons x l ih =>
      intro hs
      have h0 := hs 0
      rw [at_zero] at h0
      have := ih (fun j => by have := hs (j + 1); rwa [at_succ] at this)
      rw [val_cons, List.length_cons, pw_succ]
      omega
  have h1 := key l hs
  rw [pw_succ]
  omega

set_option maxHeartbeats 400000 in
set_option maxRecDepth 100000 in
theorem ncmp_any (A B : Option Addr) (n m c d : Nat) (l r : List Nat) (w : World) (HA : Lim w A c l) (HB : Lim w B d r) (hn : n = l.length) (hm : m = r.length) (hl : n ≤ 1073741824) (hl2 : m ≤ 1073741824) :
    Calls Tryz.prog 77 #[.agg #[.slice A n c], .agg #[.slice B m d]] w fun e w' => e = .returned (.int .i64 (cmpI (val l) (val r))) ∧ Below w.heap.size w w' := by
  have hdl := dig_len_of HA.small hn
  have hdr := dig_len_of HB.small hm
  have HN := Lib.hid hn
  have HM := Lib.hid hm
  clear hn hm
  go_enter Tryz.func77, Tryz.ntmps77
  go_wp2_with fail
  obtain ⟨W, hW⟩ : ∃ W, W = (w.alloc (.cells #[.slice A n c] 34)).alloc (.cells #[.slice B m d] 34) := ⟨_, rfl⟩
  have HX := Bx.two w #[.slice A n c] #[.slice B m d] 34 34
  rw [← hW] at HX
  rw [← hW]
  clear hW
  have HX1 := HX.ext (drew_ext W)
  go_region_held3 (fun w' => w'.cell? ⟨w.heap.size, 0, none⟩ = some (.slice A n c) ∧ w'.cell? ⟨w.heap.size + 1, 0, none⟩ = some (.slice B m d)) (first | exact ⟨HX.cell 0 0 rfl rfl, HX.cell 1 0 rfl rfl⟩ | exact ⟨HX1.cell 0 0 rfl rfl, HX1.cell 1 0 rfl rfl⟩ | exact ⟨HX2.cell 0 0 rfl rfl, HX2.cell 1 0 rfl rfl⟩ | exact ⟨HX3.cell 0 0 rfl rfl, HX3.cell 1 0 rfl rfl⟩ | exact ⟨HX4.cell 0 0 rfl rfl, HX4.cell 1 0 rfl rfl⟩)
    (first
      | (go_at_call_of 148 (Value.slice A n c); refine (limbs_any A n c l _ (HA.ext HX1.below) HN.out (by omega)).mono ?_; rintro e w1 ⟨A1, c1, rfl, H1, hb1⟩; have HX2 := HX1.ext hb1)
      | (go_at_call_of 148 (Value.slice B m d); refine (limbs_any B m d r _ (HB.ext HX2.below) HM.out (by omega)).mono ?_; rintro e w2 ⟨A2, c2, rfl, H2, hb2⟩; have HX3 := HX2.ext hb2)
      | (go_at_call 157; refine (compare_any A1 A2 _ _ c1 c2 _ _ _ (H1.ext hb2) H2 rfl rfl (by omega) (by omega)).mono ?_; rintro e w3 ⟨rfl, hw3⟩; have HX4 := HX3.ext (hw3.below _)))
  go_wp2
  go_ret
  exact ⟨rfl, HX4.below⟩

theorem add_len {a b k m : Nat} (ha : (dig a).length ≤ k) (hb : (dig b).length ≤ m) : (dig (a + b)).length ≤ k + m + 1 := by
  have h1 := Nat.lt_of_lt_of_le (dig_lt a) (pw_le ha)
  have h2 := Nat.lt_of_lt_of_le (dig_lt b) (pw_le hb)
  refine dig_len_le ?_
  rw [pw_succ, pw_add]
  have h3 := pw_pos k
  have h4 := pw_pos m
  have h5 : pw k ≤ pw k * pw m := Nat.le_mul_of_pos_right _ h4
  have h6 : pw m ≤ pw k * pw m := Nat.le_mul_of_pos_left _ h3
  omega

set_option maxHeartbeats 400000 in
set_option maxRecDepth 100000 in
theorem nadd_any (A B : Option Addr) (n m c d : Nat) (l r : List Nat) (w : World) (HA : Lim w A c l) (HB : Lim w B d r) (hn : n = l.length) (hm : m = r.length) (hl : n ≤ 1073741824) (hl2 : m ≤ 1073741824) :
    Calls Tryz.prog 74 #[.agg #[.slice A n c], .agg #[.slice B m d]] w (RetN w (val l + val r)) := by
  have hdl := dig_len_of HA.small hn
  have hdr := dig_len_of HB.small hm
  have HN := Lib.hid hn
  have HM := Lib.hid hm
  clear hn hm
  have hdv := add_len hdl hdr
  go_enter Tryz.func74, Tryz.ntmps74
  go_wp2_with fail
  obtain ⟨W, hW⟩ : ∃ W, W = ((w.alloc (.cells #[.slice A n c] 34)).alloc (.cells #[.slice B m d] 34)).alloc (.cells #[.slice none 0 0] 34) := ⟨_, rfl⟩
  have HX := Bx.three w #[.slice A n c] #[.slice B m d] #[.slice none 0 0] 34 34 34
  rw [← hW] at HX
  rw [← hW]
  clear hW
  have HX1 := HX.ext (drew_ext W)
  go_region_held3 (fun w' => w'.cell? ⟨w.heap.size, 0, none⟩ = some (.slice A n c) ∧ w'.cell? ⟨w.heap.size + 1, 0, none⟩ = some (.slice B m d)) (first | exact ⟨HX.cell 0 0 rfl rfl, HX.cell 1 0 rfl rfl⟩ | exact ⟨HX1.cell 0 0 rfl rfl, HX1.cell 1 0 rfl rfl⟩ | exact ⟨HX2.cell 0 0 rfl rfl, HX2.cell 1 0 rfl rfl⟩ | exact ⟨HX3.cell 0 0 rfl rfl, HX3.cell 1 0 rfl rfl⟩ | exact ⟨HX4.cell 0 0 rfl rfl, HX4.cell 1 0 rfl rfl⟩ | exact ⟨HX5.cell 0 0 rfl rfl, HX5.cell 1 0 rfl rfl⟩ | exact ⟨HX5.cell_set 0 0 rfl rfl (by simp; omega) _, HX5.cell_set 1 0 rfl rfl (by simp) _⟩)
    (first
      | (go_at_call_of 148 (Value.slice A n c); refine (limbs_any A n c l _ (HA.ext HX1.below) HN.out (by omega)).mono ?_; rintro e w1 ⟨A1, c1, rfl, H1, hb1⟩; have HX2 := HX1.ext hb1)
      | (go_at_call_of 148 (Value.slice B m d); refine (limbs_any B m d r _ (HB.ext HX2.below) HM.out (by omega)).mono ?_; rintro e w2 ⟨A2, c2, rfl, H2, hb2⟩; have HX3 := HX2.ext hb2)
      | (go_at_call 156; refine (plus_any A1 A2 _ _ c1 c2 _ _ _ (H1.ext hb2) H2 rfl rfl (by omega) (by omega)).mono ?_; rintro e w3 ⟨A3, c3, rfl, H3, hb3⟩; have HX4 := HX3.ext hb3)
      | (go_at_call 151; refine (made_any _ _ _ (dig (val l + val r)) _ H3 (dig_Dig _) rfl (by have := H3.cap; omega)).mono ?_; rintro e w4 ⟨A4, c4, rfl, H4, hb4⟩; rw [val_dig] at H4; rw [val_dig]; have HX5 := HX4.ext hb4; have hc4 := HX5.cell 2 0 rfl rfl; have hf4 := HX5.free 2 0 rfl))
  go_wp2
  have hav := H4.avoid_blk (HX5.blk 2 rfl) (by simp [Value.noInt])
  have hq := set_same (v := .slice A4 (dig (val l + val r)).length c4) hc4
  refine bodyPost_ret (v := .agg #[.slice A4 (dig (val l + val r)).length c4]) (by simp [results, Tryz.results74, go_sem, hq]) rfl ⟨A4, c4, rfl, H4.setCell hav _, HX5.below.setCell (by simp; omega) _⟩

theorem mul_len {a b k m : Nat} (ha : (dig a).length ≤ k) (hb : (dig b).length ≤ m) : (dig (a * b)).length ≤ k + m + 1 := by
  have h1 := Nat.lt_of_lt_of_le (dig_lt a) (pw_le ha)
  have h2 := Nat.lt_of_lt_of_le (dig_lt b) (pw_le hb)
  refine dig_len_le ?_
  rw [pw_succ, pw_add]
  have h3 := pw_pos k
  have h4 := pw_pos m
  have h5 : a * b < pw k * pw m := Nat.mul_lt_mul'' h1 h2
  omega

set_option maxHeartbeats 400000 in
set_option maxRecDepth 100000 in
theorem nmul_any (A B : Option Addr) (n m c d : Nat) (l r : List Nat) (w : World) (HA : Lim w A c l) (HB : Lim w B d r) (hn : n = l.length) (hm : m = r.length) (hl : n ≤ 1073741824) (hl2 : m ≤ 1073741824) :
    Calls Tryz.prog 72 #[.agg #[.slice A n c], .agg #[.slice B m d]] w (RetN w (val l * val r)) := by
  have hdl := dig_len_of HA.small hn
  have hdr := dig_len_of HB.small hm
  have HN := Lib.hid hn
  have HM := Lib.hid hm
  clear hn hm
  have hdv := mul_len hdl hdr
  go_enter Tryz.func72, Tryz.ntmps72
  go_wp2_with fail
  obtain ⟨W, hW⟩ : ∃ W, W = ((w.alloc (.cells #[.slice A n c] 34)).alloc (.cells #[.slice B m d] 34)).alloc (.cells #[.slice none 0 0] 34) := ⟨_, rfl⟩
  have HX := Bx.three w #[.slice A n c] #[.slice B m d] #[.slice none 0 0] 34 34 34
  rw [← hW] at HX
  rw [← hW]
  clear hW
  have HX1 := HX.ext (drew_ext W)
  go_region_held3 (fun w' => w'.cell? ⟨w.heap.size, 0, none⟩ = some (.slice A n c) ∧ w'.cell? ⟨w.heap.size + 1, 0, none⟩ = some (.slice B m d)) (first | exact ⟨HX.cell 0 0 rfl rfl, HX.cell 1 0 rfl rfl⟩ | exact ⟨HX1.cell 0 0 rfl rfl, HX1.cell 1 0 rfl rfl⟩ | exact ⟨HX2.cell 0 0 rfl rfl, HX2.cell 1 0 rfl rfl⟩ | exact ⟨HX3.cell 0 0 rfl rfl, HX3.cell 1 0 rfl rfl⟩ | exact ⟨HX4.cell 0 0 rfl rfl, HX4.cell 1 0 rfl rfl⟩ | exact ⟨HX5.cell 0 0 rfl rfl, HX5.cell 1 0 rfl rfl⟩ | exact ⟨HX5.cell_set 0 0 rfl rfl (by simp; omega) _, HX5.cell_set 1 0 rfl rfl (by simp) _⟩)
    (first
      | (go_at_call_of 148 (Value.slice A n c); refine (limbs_any A n c l _ (HA.ext HX1.below) HN.out (by omega)).mono ?_; rintro e w1 ⟨A1, c1, rfl, H1, hb1⟩; have HX2 := HX1.ext hb1)
      | (go_at_call_of 148 (Value.slice B m d); refine (limbs_any B m d r _ (HB.ext HX2.below) HM.out (by omega)).mono ?_; rintro e w2 ⟨A2, c2, rfl, H2, hb2⟩; have HX3 := HX2.ext hb2)
      | (go_at_call 152; refine (times_any A1 A2 _ _ c1 c2 _ _ _ (H1.ext hb2) H2 rfl rfl (by omega) (by omega)).mono ?_; rintro e w3 ⟨A3, c3, rfl, H3, hb3⟩; have HX4 := HX3.ext hb3)
      | (go_at_call 151; refine (made_any _ _ _ (dig (val l * val r)) _ H3 (dig_Dig _) rfl (by have := H3.cap; omega)).mono ?_; rintro e w4 ⟨A4, c4, rfl, H4, hb4⟩; rw [val_dig] at H4; rw [val_dig]; have HX5 := HX4.ext hb4; have hc4 := HX5.cell 2 0 rfl rfl; have hf4 := HX5.free 2 0 rfl))
  go_wp2
  have hav := H4.avoid_blk (HX5.blk 2 rfl) (by simp [Value.noInt])
  have hq := set_same (v := .slice A4 (dig (val l * val r)).length c4) hc4
  refine bodyPost_ret (v := .agg #[.slice A4 (dig (val l * val r)).length c4]) (by simp [results, Tryz.results72, go_sem, hq]) rfl ⟨A4, c4, rfl, H4.setCell hav _, HX5.below.setCell (by simp; omega) _⟩

def RetNE (w : World) (n : Nat) (err : Int) (e : Ending) (w' : World) : Prop := ∃ A c, e = .returned (.tuple #[.agg #[.slice A (dig n).length c], .int .i64 err]) ∧ Lim w' A c (dig n) ∧ Below w.heap.size w w'
theorem RetNE.nil {w w' : World} {err : Int} (hb : Below w.heap.size w w') : RetNE w 0 err (.returned (.tuple #[.agg #[.slice none 0 0], .int .i64 err])) w' := ⟨none, 0, rfl, Lim.nil _ _ _, hb⟩

set_option maxHeartbeats 400000 in
set_option maxRecDepth 100000 in
theorem nsub_any (A B : Option Addr) (n m c d : Nat) (l r : List Nat) (w : World) (HA : Lim w A c l) (HB : Lim w B d r) (hn : n = l.length) (hm : m = r.length) (hl : n ≤ 1073741824) (hl2 : m ≤ 1073741824) :
    Calls Tryz.prog 75 #[.agg #[.slice A n c], .agg #[.slice B m d]] w (RetNE w (val l - val r) (if val l < val r then 2 else 0)) := by
  have hdl := dig_len_of HA.small hn
  have hdr := dig_len_of HB.small hm
  have HN := Lib.hid hn
  have HM := Lib.hid hm
  clear hn hm
  by_cases hlt : val l < val r
  · rw [if_pos hlt, show val l - val r = 0 from by omega]
    have hcmp : decide (cmpI (val l) (val r) < 0) = true := by rw [cmpI_lt hlt]; rfl
    go_enter Tryz.func75, Tryz.ntmps75
    go_wp2_with fail
    obtain ⟨W, hW⟩ : ∃ W, W = ((w.alloc (.cells #[.slice A n c] 34)).alloc (.cells #[.slice B m d] 34)).alloc (.cells #[.slice none 0 0] 34) := ⟨_, rfl⟩
    have HX := Bx.three w #[.slice A n c] #[.slice B m d] #[.slice none 0 0] 34 34 34
    rw [← hW] at HX
    rw [← hW]
    clear hW
    have HX1 := HX.ext (drew_ext W)
    go_region_held3 (fun w' => w'.cell? ⟨w.heap.size, 0, none⟩ = some (.slice A n c) ∧ w'.cell? ⟨w.heap.size + 1, 0, none⟩ = some (.slice B m d)) (first | exact ⟨HX.cell 0 0 rfl rfl, HX.cell 1 0 rfl rfl⟩ | exact ⟨HX1.cell 0 0 rfl rfl, HX1.cell 1 0 rfl rfl⟩ | exact ⟨HX2.cell 0 0 rfl rfl, HX2.cell 1 0 rfl rfl⟩ | exact ⟨HX3.cell 0 0 rfl rfl, HX3.cell 1 0 rfl rfl⟩ | exact ⟨HX4.cell 0 0 rfl rfl, HX4.cell 1 0 rfl rfl⟩ | exact ⟨HX5.cell 0 0 rfl rfl, HX5.cell 1 0 rfl rfl⟩ | exact ⟨HX5.cell_set 0 0 rfl rfl (by simp; omega) _, HX5.cell_set 1 0 rfl rfl (by simp) _⟩)
      (first
        | (go_at_call_of 148 (Value.slice A n c); refine (limbs_any A n c l _ (HA.ext HX1.below) HN.out (by omega)).mono ?_; rintro e w1 ⟨A1, c1, rfl, H1, hb1⟩; have HX2 := HX1.ext hb1)
        | (go_at_call_of 148 (Value.slice B m d); refine (limbs_any B m d r _ (HB.ext HX2.below) HM.out (by omega)).mono ?_; rintro e w2 ⟨A2, c2, rfl, H2, hb2⟩; have HX3 := HX2.ext hb2))
    go_wp2_with fail
    refine (compare_any A1 A2 _ _ c1 c2 _ _ _ (H1.ext hb2) H2 rfl rfl (by omega) (by omega)).mono ?_
    rintro e w3 ⟨rfl, hw3⟩
    have hb3 := hw3.below w2.heap.size
    have HX4 := HX3.ext hb3
    have hc4 := HX4.cell 2 0 rfl rfl
    have hf4 := HX4.free 2 0 rfl
    go_wp2
    have hq := set_same (v := .slice none 0 0) hc4
    exact bodyPost_ret (v := .tuple #[.agg #[.slice none 0 0], .int .i64 2]) (by simp [results, Tryz.results75, go_sem, hq]) rfl (RetNE.nil (HX4.below.setCell (by simp; omega) _))
  · rw [if_neg hlt]
    have hcmp : decide (cmpI (val l) (val r) < 0) = false := by
      rcases Nat.lt_or_ge (val r) (val l) with h | h
      · rw [cmpI_gt h]; rfl
      · rw [cmpI_eq (by omega)]; rfl
    have hdv := dig_mono (Nat.sub_le (val l) (val r))
    go_enter Tryz.func75, Tryz.ntmps75
    go_wp2_with fail
    obtain ⟨W, hW⟩ : ∃ W, W = ((w.alloc (.cells #[.slice A n c] 34)).alloc (.cells #[.slice B m d] 34)).alloc (.cells #[.slice none 0 0] 34) := ⟨_, rfl⟩
    have HX := Bx.three w #[.slice A n c] #[.slice B m d] #[.slice none 0 0] 34 34 34
    rw [← hW] at HX
    rw [← hW]
    clear hW
    have HX1 := HX.ext (drew_ext W)
    go_region_held3 (fun w' => w'.cell? ⟨w.heap.size, 0, none⟩ = some (.slice A n c) ∧ w'.cell? ⟨w.heap.size + 1, 0, none⟩ = some (.slice B m d)) (first | exact ⟨HX.cell 0 0 rfl rfl, HX.cell 1 0 rfl rfl⟩ | exact ⟨HX1.cell 0 0 rfl rfl, HX1.cell 1 0 rfl rfl⟩ | exact ⟨HX2.cell 0 0 rfl rfl, HX2.cell 1 0 rfl rfl⟩ | exact ⟨HX3.cell 0 0 rfl rfl, HX3.cell 1 0 rfl rfl⟩ | exact ⟨HX4.cell 0 0 rfl rfl, HX4.cell 1 0 rfl rfl⟩ | exact ⟨HX5.cell 0 0 rfl rfl, HX5.cell 1 0 rfl rfl⟩ | exact ⟨HX5.cell_set 0 0 rfl rfl (by simp; omega) _, HX5.cell_set 1 0 rfl rfl (by simp) _⟩)
      (first
        | (go_at_call_of 148 (Value.slice A n c); refine (limbs_any A n c l _ (HA.ext HX1.below) HN.out (by omega)).mono ?_; rintro e w1 ⟨A1, c1, rfl, H1, hb1⟩; have HX2 := HX1.ext hb1)
        | (go_at_call_of 148 (Value.slice B m d); refine (limbs_any B m d r _ (HB.ext HX2.below) HM.out (by omega)).mono ?_; rintro e w2 ⟨A2, c2, rfl, H2, hb2⟩; have HX3 := HX2.ext hb2))
    go_wp2_with fail
    refine (compare_any A1 A2 _ _ c1 c2 _ _ _ (H1.ext hb2) H2 rfl rfl (by omega) (by omega)).mono ?_
    rintro e w3 ⟨rfl, hw3⟩
    have hb3 := hw3.below w2.heap.size
    have HX4 := HX3.ext hb3
    go_wp2_with fail
    refine (minus_any A1 A2 _ _ c1 c2 _ _ _ ((H1.ext hb2).ext hb3) (H2.ext hb3) rfl rfl (by omega) (by omega)).mono ?_
    rintro e w4 ⟨A3, c3, rfl, H3, hb4⟩
    have HX5 := HX4.ext hb4
    go_wp2_with fail
    refine (made_any _ _ _ (dig (val l - val r)) _ H3 (dig_Dig _) rfl (by omega)).mono ?_
    rintro e w5 ⟨A4, c4, rfl, H4, hb5⟩
    rw [val_dig] at H4
    rw [val_dig]
    have HX6 := HX5.ext hb5
    have hc4 := HX6.cell 2 0 rfl rfl
    have hf4 := HX6.free 2 0 rfl
    go_wp2
    have hav := H4.avoid_blk (HX6.blk 2 rfl) (by simp [Value.noInt])
    have hq := set_same (v := .slice A4 (dig (val l - val r)).length c4) hc4
    exact bodyPost_ret (v := .tuple #[.agg #[.slice A4 (dig (val l - val r)).length c4], .int .i64 0]) (by simp [results, Tryz.results75, go_sem, hq]) rfl ⟨A4, c4, rfl, H4.setCell hav _, HX6.below.setCell (by simp; omega) _⟩

end Go.Proofs.YtolkijelldlmeaaGreatDoor
