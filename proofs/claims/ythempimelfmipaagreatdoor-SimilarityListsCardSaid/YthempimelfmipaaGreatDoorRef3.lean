/- The reference's naturals: DivMod. -/
import Derived.Test.YthempimelfmipaaGreatDoorRef2
import Derived.Test.YthempimelfmipaaGreatDoorHoist
namespace Go.Proofs.YthempimelfmipaaGreatDoor
open Go.RowKit Go.Proofs Go

theorem BL.four (w : World) (c c' c2 c3 : Array Value) (T T' T2 T3 : TypeId) : BL w ((((w.alloc (.cells c T)).alloc (.cells c' T')).alloc (.cells c2 T2)).alloc (.cells c3 T3)) [(w.heap.size, c, T), (w.heap.size + 1, c', T'), (w.heap.size + 2, c2, T2), (w.heap.size + 3, c3, T3)] := by
  have := (BL.three w c c' c2 T T' T2).new c3 T3
  simpa using this
theorem BL.pre {w W : World} {L M : List (Nat × Array Value × TypeId)} (h : BL w W (L ++ M)) : BL w W L :=
  ⟨h.below, fun i p hp => h.blk i p (by rw [List.getElem?_append_left (List.getElem?_eq_some_iff.1 hp).1]; exact hp)⟩
theorem BL.take {w W : World} {L : List (Nat × Array Value × TypeId)} (h : BL w W L) (k : Nat) : BL w W (L.take k) :=
  ⟨h.below, fun i p hp => h.blk i p (by
    rw [List.getElem?_take] at hp
    split at hp
    · exact hp
    · cases hp)⟩
theorem BL.far {w W : World} {L : List (Nat × Array Value × TypeId)} (h : BL w W L) {p : Addr} (hp : w.heap.size ≤ p.block) (hne : ∀ (k : Nat) (q : Nat × Array Value × TypeId), L[k]? = some q → q.1 ≠ p.block) (v : Value) : BL w (W.setCell p v) L :=
  ⟨h.below.setCell hp v, fun k q hk => by rw [Below.heap_setCell _ _ _ _ (hne k q hk)]; exact h.blk k q hk⟩
theorem guess_ge {P Y n : Nat} (hn : n = (dig Y).length) (hY : 0 < Y) (hP : P < 1000000000 * Y) {g0 : Nat} (h0 : (dig P).length ≤ n → g0 = 0) (h1 : (dig P).length = n + 1 → g0 = at_ (dig P) n * 1000000000) (hge : n ≤ (dig P).length) :
    P / Y ≤ min ((g0 + at_ (dig P) (n - 1)) / at_ (dig Y) (n - 1)) 999999999 ∧ 0 < at_ (dig Y) (n - 1) := by
  have hn0 : 0 < n := by rw [hn]; exact dig_len_pos.2 hY
  have hlen : (dig P).length ≤ n + 1 := dig_len_le (Nat.lt_of_lt_of_le hP (by rw [pw_succ]; exact Nat.mul_le_mul_left _ (by rw [hn]; exact Nat.le_of_lt (dig_lt Y))))
  have htop : 0 < at_ (dig Y) (n - 1) := by have := dig_top hY; rw [← hn] at this; omega
  have hd : P / pw (n - 1) = g0 + at_ (dig P) (n - 1) := by
    by_cases e : (dig P).length = n + 1
    · rw [h1 e, dig_last2 P (k := n - 1) (by omega), show n - 1 + 1 = n by omega]
    · rw [h0 (by omega), dig_last P (k := n - 1) (by omega), Nat.zero_add]
  have hq : P / Y < 1000000000 := by rw [Nat.div_lt_iff_lt_mul hY]; exact hP
  refine ⟨Nat.le_min.2 ⟨?_, by omega⟩, htop⟩
  rw [Nat.le_div_iff_mul_le htop, ← hd]
  by_cases hYP : Y ≤ P
  · exact top_digit hn hY hYP
  · rw [Nat.div_eq_of_lt (by omega), Nat.zero_mul]; exact Nat.zero_le _
theorem small_quot {P Y n : Nat} (hn : n = (dig Y).length) (hlt : (dig P).length < n) : P / Y ≤ 0 := by
  rw [Nat.div_eq_of_lt (lt_of_len (by omega))]; exact Nat.le_refl _
theorem Own.far {w : World} {B T g n c : Nat} {xs : List Value} (h : Own w B T (some ⟨g, 0, none⟩) n c xs) {p : Addr} (hp : p.block ≠ g) (v : Value) : Own (w.setCell p v) B T (some ⟨g, 0, none⟩) n c xs := by
  refine ⟨h.1, ?_⟩
  rcases h.2 with ⟨hv, h0⟩ | ⟨g', cap, cur, hv, h1, h2, h3⟩
  · exact .inl ⟨hv, h0⟩
  · refine .inr ⟨g', cap, cur, hv, h1, ?_, h3⟩
    have : g' = g := by injection hv with e; injection e with e; injection e with e; exact e.symm
    rw [Below.heap_setCell _ _ _ _ (by rw [this]; exact Ne.symm hp)]; exact h2
theorem Own.lt {w : World} {B T g n c : Nat} {xs : List Value} (h : Own w B T (some ⟨g, 0, none⟩) n c xs) : g < w.heap.size := (World.ownsRow.lt h _ rfl).2
/-- Mul, Cmp, Sub over canonical limbs -/
theorem rmul_d {A B : Option Addr} {c d : Nat} {a b : Nat} (w : World) (HA : Lim w A c (dig a)) (HB : Lim w B d (dig b)) (ha : (dig a).length ≤ 1073741824) (hb : (dig b).length ≤ 1073741824) :
    Calls Tryz.prog 101 #[.agg #[.slice A (dig a).length c], .agg #[.slice B (dig b).length d]] w (RetN w (a * b)) := by
  have := rmul_any A B _ _ c d (dig a) (dig b) w HA HB rfl rfl ha hb
  rwa [val_dig, val_dig] at this
theorem rcmp_d {A B : Option Addr} {c d : Nat} {a b : Nat} (w : World) (HA : Lim w A c (dig a)) (HB : Lim w B d (dig b)) (ha : (dig a).length ≤ 1073741824) (hb : (dig b).length ≤ 1073741824) :
    Calls Tryz.prog 121 #[.agg #[.slice A (dig a).length c], .agg #[.slice B (dig b).length d]] w fun e w' => e = .returned (.int .i64 (cmpI a b)) ∧ Below w.heap.size w w' := by
  have := rcmp_any A B _ _ c d (dig a) (dig b) w HA HB rfl rfl ha hb
  rwa [val_dig, val_dig] at this
theorem rsub_d {A B : Option Addr} {c d : Nat} {a b : Nat} (w : World) (HA : Lim w A c (dig a)) (HB : Lim w B d (dig b)) (ha : (dig a).length ≤ 1073741824) (hb : (dig b).length ≤ 1073741824) (hle : b ≤ a) :
    Calls Tryz.prog 122 #[.agg #[.slice A (dig a).length c], .agg #[.slice B (dig b).length d]] w (RetNEF w (a - b) 0) := by
  have := rsub_new A B _ _ c d (dig a) (dig b) w HA HB rfl rfl ha hb
  rwa [val_dig, val_dig, if_neg (by omega)] at this

set_option maxHeartbeats 4000000 in
set_option maxRecDepth 1000000 in
theorem rdivmod_zero (A B : Option Addr) (n m c d : Nat) (l r : List Nat) (w : World) (HA : Lim w A c l) (HB : Lim w B d r) (hn : n = l.length) (hm : m = r.length) (hl : n ≤ 536870912) (hl2 : m ≤ 536870912) (h0 : val r = 0) :
    Calls Tryz.prog 118 #[.agg #[.slice A n c], .agg #[.slice B m d]] w (RetNNE w 0 0 12) := by
  have hdl := dig_len_of HA.small hn
  have hdr := dig_len_of HB.small hm
  obtain ⟨a, ha⟩ : ∃ a, val l = a := ⟨_, rfl⟩
  obtain ⟨b, hbv⟩ : ∃ b, val r = b := ⟨_, rfl⟩
  rw [ha] at hdl
  rw [hbv] at hdr
  have HN := Lib.hid hn
  have HM := Lib.hid hm
  have hz : (dig b).length = 0 := dig_len_zero.2 (by omega)
  have hne : (((dig b).length : Int) == 0) = true := by rw [hz]; rfl
  clear hz
  have ha := Lib.hid ha
  have hbv := Lib.hid hbv
  clear hn hm h0
  go_enter Tryz.func118, Tryz.ntmps118
  go_wp2_with fail
  have HX := BL.four w #[.slice A n c] #[.slice B m d] #[.slice none 0 0] #[.slice none 0 0] 31 31 31 31
  refine (rnorm_any A n c l _ (HA.ext HX.below) HN.out (by omega)).mono ?_
  rintro e w1 ⟨A1, c1, rfl, HA1, hb⟩
  rw [ha.out] at HA1
  rw [ha.out]
  replace HX := HX.ext hb
  clear hb
  have hc00 := HX.cell 0 0 rfl rfl
  have hf00 := HX.free 0 0 rfl
  simp only [] at hc00 hf00
  have hc10 := HX.cell 1 0 rfl rfl
  simp only [] at hc10
  go_upto_region 2 with fail
  clear hc00 hf00
  clear hc10
  have hk := HX.keep1 0 rfl rfl (.slice A1 (dig a).length c1)
  replace HX := HX.put1 0 rfl (by omega) (by intro k q hk hne; match k, hk with | 0, hk => (simp at hk; subst hk; simp at hne ⊢; try omega) | 1, hk => (simp at hk; subst hk; simp at hne ⊢; try omega) | 2, hk => (simp at hk; subst hk; simp at hne ⊢; try omega) | 3, hk => (simp at hk; subst hk; simp at hne ⊢; try omega) | k + 4, hk => simp at hk) (.slice A1 (dig a).length c1)
  replace HA1 := HA1.stay hk
  clear hk
  simp only [List.set_cons_zero] at HX
  generalize w1.setCell ⟨w.heap.size, 0, none⟩ (.slice A1 (dig a).length c1) = W1 at *
  have hc10 := HX.cell 1 0 rfl rfl
  simp only [] at hc10
  go_wp2_with fail
  refine (rnorm_any B m d r _ (HB.ext HX.below) HM.out (by omega)).mono ?_
  rintro e w2 ⟨A2, c2, rfl, HB1, hb⟩
  rw [hbv.out] at HB1
  rw [hbv.out]
  clear hc10
  replace HX := HX.ext hb
  replace HA1 := HA1.ext hb
  clear hb
  have hc10 := HX.cell 1 0 rfl rfl
  have hf10 := HX.free 1 0 rfl
  simp only [] at hc10 hf10
  go_upto_region 3 with fail
  clear hc10 hf10
  have hk := HX.keep1 1 rfl rfl (.slice A2 (dig b).length c2)
  replace HX := HX.put1 1 rfl (by omega) (by intro k q hk hne; match k, hk with | 0, hk => (simp at hk; subst hk; simp at hne ⊢; try omega) | 1, hk => (simp at hk; subst hk; simp at hne ⊢; try omega) | 2, hk => (simp at hk; subst hk; simp at hne ⊢; try omega) | 3, hk => (simp at hk; subst hk; simp at hne ⊢; try omega) | k + 4, hk => simp at hk) (.slice A2 (dig b).length c2)
  replace HA1 := HA1.stay hk
  replace HB1 := HB1.stay hk
  clear hk
  simp only [List.set_cons_zero, List.set_cons_succ] at HX
  generalize w2.setCell ⟨w.heap.size + 1, 0, none⟩ (.slice A2 (dig b).length c2) = W2 at *
  have hc00 := HX.cell 0 0 rfl rfl
  have hc10 := HX.cell 1 0 rfl rfl
  simp only [] at hc00 hc10
  clear hc00 hc10
  have hc10 := HX.cell 1 0 rfl rfl
  simp only [] at hc10
  have hc20 := HX.cell 2 0 rfl rfl
  have hf20 := HX.free 2 0 rfl
  have hc30 := HX.cell 3 0 rfl rfl
  have hf30 := HX.free 3 0 rfl
  simp only [] at hc20 hf20 hc30 hf30
  go_wp2
  clear hc10
  clear hc20 hf20 hc30 hf30
  have hk := HX.keep1 2 rfl rfl (.slice none 0 0)
  replace HX := HX.put1 2 rfl (by omega) (by intro k q hk hne; match k, hk with | 0, hk => (simp at hk; subst hk; simp at hne ⊢; try omega) | 1, hk => (simp at hk; subst hk; simp at hne ⊢; try omega) | 2, hk => (simp at hk; subst hk; simp at hne ⊢; try omega) | 3, hk => (simp at hk; subst hk; simp at hne ⊢; try omega) | k + 4, hk => simp at hk) (.slice none 0 0)
  replace HA1 := HA1.stay hk
  replace HB1 := HB1.stay hk
  clear hk
  simp only [List.set_cons_zero, List.set_cons_succ] at HX
  have hk := HX.keep1 3 rfl rfl (.slice none 0 0)
  replace HX := HX.put1 3 rfl (by omega) (by intro k q hk hne; match k, hk with | 0, hk => (simp at hk; subst hk; simp at hne ⊢; try omega) | 1, hk => (simp at hk; subst hk; simp at hne ⊢; try omega) | 2, hk => (simp at hk; subst hk; simp at hne ⊢; try omega) | 3, hk => (simp at hk; subst hk; simp at hne ⊢; try omega) | k + 4, hk => simp at hk) (.slice none 0 0)
  replace HA1 := HA1.stay hk
  replace HB1 := HB1.stay hk
  clear hk
  simp only [List.set_cons_zero, List.set_cons_succ] at HX
  have hc20 := HX.cell 2 0 rfl rfl
  have hc30 := HX.cell 3 0 rfl rfl
  simp only [] at hc20 hc30
  exact bodyPost_ret (v := .tuple #[.agg #[.slice none 0 0], .agg #[.slice none 0 0], .int .i64 12]) (by simp [results, Tryz.results118, go_sem, hc20, hc30]) rfl ⟨none, 0, none, 0, rfl, Lim.nil _ _ _, Lim.nil _ _ _, HX.below⟩

set_option maxHeartbeats 4000000 in
set_option maxRecDepth 1000000 in
theorem rdivmod_less (A B : Option Addr) (n m c d : Nat) (l r : List Nat) (w : World) (HA : Lim w A c l) (HB : Lim w B d r) (hn : n = l.length) (hm : m = r.length) (hl : n ≤ 536870912) (hl2 : m ≤ 536870912) (h0 : val l < val r) :
    Calls Tryz.prog 118 #[.agg #[.slice A n c], .agg #[.slice B m d]] w (RetNNE w 0 (val l) 0) := by
  have hdl := dig_len_of HA.small hn
  have hdr := dig_len_of HB.small hm
  obtain ⟨a, ha⟩ : ∃ a, val l = a := ⟨_, rfl⟩
  obtain ⟨b, hbv⟩ : ∃ b, val r = b := ⟨_, rfl⟩
  rw [ha] at hdl
  rw [hbv] at hdr
  have HN := Lib.hid hn
  have HM := Lib.hid hm
  rw [ha, hbv] at h0
  rw [ha]
  have hcl := decide_eq_true (show cmpI a b < 0 by rw [cmpI_lt h0]; omega)
  have hbp := dig_len_pos.2 (Nat.lt_of_le_of_lt (Nat.zero_le a) h0)
  have hne : (((dig b).length : Int) == 0) = false := beq_eq_false_iff_ne.2 (by omega)
  have ha := Lib.hid ha
  have hbv := Lib.hid hbv
  clear hn hm h0
  go_enter Tryz.func118, Tryz.ntmps118
  go_wp2_with fail
  have HX := BL.four w #[.slice A n c] #[.slice B m d] #[.slice none 0 0] #[.slice none 0 0] 31 31 31 31
  refine (rnorm_any A n c l _ (HA.ext HX.below) HN.out (by omega)).mono ?_
  rintro e w1 ⟨A1, c1, rfl, HA1, hb⟩
  rw [ha.out] at HA1
  rw [ha.out]
  replace HX := HX.ext hb
  clear hb
  have hc00 := HX.cell 0 0 rfl rfl
  have hf00 := HX.free 0 0 rfl
  simp only [] at hc00 hf00
  have hc10 := HX.cell 1 0 rfl rfl
  simp only [] at hc10
  go_upto_region 2 with fail
  clear hc00 hf00
  clear hc10
  have hk := HX.keep1 0 rfl rfl (.slice A1 (dig a).length c1)
  replace HX := HX.put1 0 rfl (by omega) (by intro k q hk hne; match k, hk with | 0, hk => (simp at hk; subst hk; simp at hne ⊢; try omega) | 1, hk => (simp at hk; subst hk; simp at hne ⊢; try omega) | 2, hk => (simp at hk; subst hk; simp at hne ⊢; try omega) | 3, hk => (simp at hk; subst hk; simp at hne ⊢; try omega) | k + 4, hk => simp at hk) (.slice A1 (dig a).length c1)
  replace HA1 := HA1.stay hk
  clear hk
  simp only [List.set_cons_zero] at HX
  generalize w1.setCell ⟨w.heap.size, 0, none⟩ (.slice A1 (dig a).length c1) = W1 at *
  have hc10 := HX.cell 1 0 rfl rfl
  simp only [] at hc10
  go_wp2_with fail
  refine (rnorm_any B m d r _ (HB.ext HX.below) HM.out (by omega)).mono ?_
  rintro e w2 ⟨A2, c2, rfl, HB1, hb⟩
  rw [hbv.out] at HB1
  rw [hbv.out]
  clear hc10
  replace HX := HX.ext hb
  replace HA1 := HA1.ext hb
  clear hb
  have hc10 := HX.cell 1 0 rfl rfl
  have hf10 := HX.free 1 0 rfl
  simp only [] at hc10 hf10
  go_upto_region 3 with fail
  clear hc10 hf10
  have hk := HX.keep1 1 rfl rfl (.slice A2 (dig b).length c2)
  replace HX := HX.put1 1 rfl (by omega) (by intro k q hk hne; match k, hk with | 0, hk => (simp at hk; subst hk; simp at hne ⊢; try omega) | 1, hk => (simp at hk; subst hk; simp at hne ⊢; try omega) | 2, hk => (simp at hk; subst hk; simp at hne ⊢; try omega) | 3, hk => (simp at hk; subst hk; simp at hne ⊢; try omega) | k + 4, hk => simp at hk) (.slice A2 (dig b).length c2)
  replace HA1 := HA1.stay hk
  replace HB1 := HB1.stay hk
  clear hk
  simp only [List.set_cons_zero, List.set_cons_succ] at HX
  generalize w2.setCell ⟨w.heap.size + 1, 0, none⟩ (.slice A2 (dig b).length c2) = W2 at *
  have hc00 := HX.cell 0 0 rfl rfl
  have hc10 := HX.cell 1 0 rfl rfl
  simp only [] at hc00 hc10
  go_wp2_with fail
  refine (rcmp_d _ HA1 HB1 (by omega) (by omega)).mono ?_
  rintro e w3 ⟨rfl, hb⟩
  clear hc00 hc10
  replace HX := HX.ext hb
  replace HA1 := HA1.ext hb
  replace HB1 := HB1.ext hb
  clear hb
  have hc00 := HX.cell 0 0 rfl rfl
  simp only [] at hc00
  have hc20 := HX.cell 2 0 rfl rfl
  have hf20 := HX.free 2 0 rfl
  have hc30 := HX.cell 3 0 rfl rfl
  have hf30 := HX.free 3 0 rfl
  simp only [] at hc20 hf20 hc30 hf30
  go_upto_region 7 with fail
  clear hc00
  clear hc20 hf20 hc30 hf30
  have hk1 := HX.keep1 2 rfl rfl (.slice none 0 0)
  have HX1 := HX.put1 2 rfl (by omega) (by intro k q hk hne; match k, hk with | 0, hk => (simp at hk; subst hk; simp at hne ⊢; try omega) | 1, hk => (simp at hk; subst hk; simp at hne ⊢; try omega) | 2, hk => (simp at hk; subst hk; simp at hne ⊢; try omega) | 3, hk => (simp at hk; subst hk; simp at hne ⊢; try omega) | k + 4, hk => simp at hk) (.slice none 0 0)
  have hq1 := HX1.cell 3 0 rfl rfl
  have hq2 := HX1.free 3 0 rfl
  simp only [] at hq1 hq2
  have hk2 := HX1.keep1 3 rfl rfl (.slice A1 (dig a).length c1)
  have HX2 := HX1.put1 3 rfl (by omega) (by intro k q hk hne; match k, hk with | 0, hk => (simp at hk; subst hk; simp at hne ⊢; try omega) | 1, hk => (simp at hk; subst hk; simp at hne ⊢; try omega) | 2, hk => (simp at hk; subst hk; simp at hne ⊢; try omega) | 3, hk => (simp at hk; subst hk; simp at hne ⊢; try omega) | k + 4, hk => simp at hk) (.slice A1 (dig a).length c1)
  have HA2 := (HA1.stay hk1).stay hk2
  clear hk1 hk2 HX1
  have hE := drew_ext w3
  replace HX := HX.ext hE
  replace HA1 := HA1.ext hE
  replace HB1 := HB1.ext hE
  clear hE
  have hc00 := HX.cell 0 0 rfl rfl
  simp only [] at hc00
  have hc20 := HX.cell 2 0 rfl rfl
  have hf20 := HX.free 2 0 rfl
  have hc30 := HX.cell 3 0 rfl rfl
  have hf30 := HX.free 3 0 rfl
  simp only [] at hc20 hf20 hc30 hf30
  go_region_held3 (fun W' => W'.cell? ⟨w.heap.size, 0, none⟩ = some (.slice A1 (dig a).length c1)) ((first | exact hc00 | (rw [show ∀ (W : World) (p : Addr), W.drew.cell? p = W.cell? p from fun _ _ => rfl]; (repeat (rw [World.cell?_setCell_other _ _ _ _ (by simp)])); exact hc00))) (fail)
  clear hq1 hq2
  clear hc00
  clear hc20 hf20 hc30 hf30
  have hc20 := HX2.cell 2 0 rfl rfl
  have hc30 := HX2.cell 3 0 rfl rfl
  simp only [] at hc20 hc30
  go_wp2
  exact bodyPost_ret (v := .tuple #[.agg #[.slice none 0 0], .agg #[.slice A1 (dig a).length c1], .int .i64 0]) (by simp [results, Tryz.results118, go_sem, hc20, hc30]) rfl ⟨none, 0, A1, c1, rfl, Lim.nil _ _ _, HA2.ext (drew_ext _), (HX2.ext (drew_ext _)).below⟩

set_option maxHeartbeats 4000000 in
set_option maxRecDepth 1000000 in
theorem rdivmod_long (A B : Option Addr) (n m c d : Nat) (l r : List Nat) (w : World) (HA : Lim w A c l) (HB : Lim w B d r) (hn : n = l.length) (hm : m = r.length) (hl : n ≤ 536870912) (hl2 : m ≤ 536870912) (h0 : 0 < val r) (h1 : val r ≤ val l) :
    Calls Tryz.prog 118 #[.agg #[.slice A n c], .agg #[.slice B m d]] w (RetNNE w (val l / val r) (val l % val r) 0) := by
  have hdl := dig_len_of HA.small hn
  have hdr := dig_len_of HB.small hm
  obtain ⟨a, ha⟩ : ∃ a, val l = a := ⟨_, rfl⟩
  obtain ⟨b, hbv⟩ : ∃ b, val r = b := ⟨_, rfl⟩
  rw [ha] at hdl
  rw [hbv] at hdr
  have HN := Lib.hid hn
  have HM := Lib.hid hm
  rw [ha, hbv] at h1
  rw [hbv] at h0
  rw [ha, hbv]
  have hcl : decide (cmpI a b < 0) = false := by
    rcases Nat.lt_or_ge b a with h | h
    · rw [cmpI_gt h]; rfl
    · rw [cmpI_eq (by omega)]; rfl
  have hbp := dig_len_pos.2 h0
  have hne : (((dig b).length : Int) == 0) = false := beq_eq_false_iff_ne.2 (by omega)
  obtain ⟨f, hf⟩ : ∃ f, f = 1000000000 / (at_ (dig b) ((dig b).length - 1) + 1) := ⟨_, rfl⟩
  obtain ⟨hlY, hf0, hf1⟩ := len_scaled rfl h0 hf
  have hfI : (1000000000 : Int) / (((at_ (dig b) ((dig b).length - 1) : Nat) : Int) + 1) = (f : Int) := by rw [hf, Int.natCast_ediv]; rfl
  have htop := dig_Dig b ((dig b).length - 1)
  have hlX : (dig (a * f)).length ≤ (dig a).length + 1 := by
    refine dig_len_le ?_
    rw [pw_succ, Nat.mul_comm]
    exact Nat.lt_of_lt_of_le (Nat.mul_lt_mul_of_pos_left (dig_lt a) hf0) (Nat.mul_le_mul_right _ (by omega))
  have hXY : b * f ≤ a * f := Nat.mul_le_mul_right _ h1
  have hYp : 0 < b * f := Nat.mul_pos h0 hf0
  have hq1 : a * f / (b * f) = a / b := Nat.mul_div_mul_right _ _ hf0
  have hq2 : a * f % (b * f) / f = a % b := by rw [Nat.mul_mod_mul_right, Nat.mul_div_cancel _ hf0]
  have hlf : (dig f).length ≤ 1 := dig_len_le (by rw [pw, Nat.pow_one]; exact hf1)
  obtain ⟨X, hX⟩ : ∃ X, a * f = X := ⟨_, rfl⟩
  obtain ⟨Y, hY⟩ : ∃ Y, b * f = Y := ⟨_, rfl⟩
  rw [hX, hY] at hq1 hq2
  rw [hX] at hlX hXY
  rw [hY] at hlY hXY hYp
  have hlYX : (dig Y).length ≤ (dig X).length := dig_mono hXY
  have HX' := Lib.hid hX
  have HY' := Lib.hid hY
  have HF := Lib.hid hf
  have HLY := Lib.hid hlY
  have HQ1 := Lib.hid hq1
  have HQ2 := Lib.hid hq2
  have ha := Lib.hid ha
  have hbv := Lib.hid hbv
  clear hn hm h1 hX hY hf hlY hq1 hq2
  go_enter Tryz.func118, Tryz.ntmps118
  go_wp2_with fail
  have HX := BL.four w #[.slice A n c] #[.slice B m d] #[.slice none 0 0] #[.slice none 0 0] 31 31 31 31
  refine (rnorm_any A n c l _ (HA.ext HX.below) HN.out (by omega)).mono ?_
  rintro e w1 ⟨A1, c1, rfl, HA1, hb⟩
  rw [ha.out] at HA1
  rw [ha.out]
  replace HX := HX.ext hb
  clear hb
  have hc00 := HX.cell 0 0 rfl rfl
  have hf00 := HX.free 0 0 rfl
  simp only [] at hc00 hf00
  have hc10 := HX.cell 1 0 rfl rfl
  simp only [] at hc10
  go_upto_region 2 with fail
  clear hc00 hf00
  clear hc10
  have hk := HX.keep1 0 rfl rfl (.slice A1 (dig a).length c1)
  replace HX := HX.put1 0 rfl (by omega) (by intro k q hk hne; match k, hk with | 0, hk => (simp at hk; subst hk; simp at hne ⊢; try omega) | 1, hk => (simp at hk; subst hk; simp at hne ⊢; try omega) | 2, hk => (simp at hk; subst hk; simp at hne ⊢; try omega) | 3, hk => (simp at hk; subst hk; simp at hne ⊢; try omega) | k + 4, hk => simp at hk) (.slice A1 (dig a).length c1)
  replace HA1 := HA1.stay hk
  clear hk
  simp only [List.set_cons_zero] at HX
  generalize w1.setCell ⟨w.heap.size, 0, none⟩ (.slice A1 (dig a).length c1) = W1 at *
  have hc10 := HX.cell 1 0 rfl rfl
  simp only [] at hc10
  go_wp2_with fail
  refine (rnorm_any B m d r _ (HB.ext HX.below) HM.out (by omega)).mono ?_
  rintro e w2 ⟨A2, c2, rfl, HB1, hb⟩
  rw [hbv.out] at HB1
  rw [hbv.out]
  clear hc10
  replace HX := HX.ext hb
  replace HA1 := HA1.ext hb
  clear hb
  have hc10 := HX.cell 1 0 rfl rfl
  have hf10 := HX.free 1 0 rfl
  simp only [] at hc10 hf10
  go_upto_region 3 with fail
  clear hc10 hf10
  have hk := HX.keep1 1 rfl rfl (.slice A2 (dig b).length c2)
  replace HX := HX.put1 1 rfl (by omega) (by intro k q hk hne; match k, hk with | 0, hk => (simp at hk; subst hk; simp at hne ⊢; try omega) | 1, hk => (simp at hk; subst hk; simp at hne ⊢; try omega) | 2, hk => (simp at hk; subst hk; simp at hne ⊢; try omega) | 3, hk => (simp at hk; subst hk; simp at hne ⊢; try omega) | k + 4, hk => simp at hk) (.slice A2 (dig b).length c2)
  replace HA1 := HA1.stay hk
  replace HB1 := HB1.stay hk
  clear hk
  simp only [List.set_cons_zero, List.set_cons_succ] at HX
  generalize w2.setCell ⟨w.heap.size + 1, 0, none⟩ (.slice A2 (dig b).length c2) = W2 at *
  have hc00 := HX.cell 0 0 rfl rfl
  have hc10 := HX.cell 1 0 rfl rfl
  simp only [] at hc00 hc10
  go_wp2_with fail
  refine (rcmp_d _ HA1 HB1 (by omega) (by omega)).mono ?_
  rintro e w3 ⟨rfl, hb⟩
  clear hc00 hc10
  replace HX := HX.ext hb
  replace HA1 := HA1.ext hb
  replace HB1 := HB1.ext hb
  clear hb
  obtain ⟨bd, rfl, _, hcell⟩ := HB1.cellAt (j := (dig b).length - 1) (by omega)
  have hc10 := HX.cell 1 0 rfl rfl
  simp only [] at hc10
  go_upto_region 9 with fail
  clear hc10
  try rw [hfI]
  clear hcell hfI
  have lt90 := HX.lt 0 rfl
  have lt91 := HX.lt 1 rfl
  have lt92 := HX.lt 2 rfl
  have lt93 := HX.lt 3 rfl
  simp only [] at lt90 lt91 lt92 lt93
  refine wp_region_x (al := [4]) (late := []) (dst := fun i => 9) (zt := fun _ => (#[.slice none 0 0], 31)) (B := w3.heap.size) (n := 4) (r := 1) (by kernel_rfl) (by kernel_rfl) (by decide) ?_ (by kernel_rfl) (by kernel_rfl) (by intro _ _ _ d _ h; cases d <;> exact h) (sz := 6) (by rfl) (by rfl) (Nat.le_refl _) ?_
  · intro i hi
    simp only [List.mem_cons, List.not_mem_nil, or_false] at hi
    subst hi
    exact ⟨_, rfl, rfl, rfl, rfl, fun _ _ => by kernel_rfl⟩
  have hE : Ext w3 w3.drew := drew_ext w3
  replace HX := HX.ext hE
  replace HA1 := HA1.ext hE
  replace HB1 := HB1.ext hE
  clear hE
  refine wpX_take (i := 0) (v := .agg #[.slice A1 (dig a).length c1]) rfl (by kernel_rfl) (by kernel_rfl) (by kernel_rfl) (fun _ _ _ h => h) (Or.inl ⟨by rfl, fun W hW => ?_⟩) ?_
  · have h0 := (HX.ext hW).cell 0 0 rfl rfl
    simp only [] at h0
    go_simp
    try rfl
  try simp only [Act.put, List.setIfInBounds_toArray]
  refine wpX_take (i := 1) (v := .int .u64 (f : Int)) rfl (by kernel_rfl) (by kernel_rfl) (by kernel_rfl) (fun _ _ _ h => h) (Or.inl ⟨by rfl, fun W hW => ?_⟩) ?_
  · go_simp
    try rfl
  try simp only [Act.put]
  refine wpX_step (i := 2) (by kernel_rfl) rfl (fun W1 K hE hK => ?_)
  replace HX := HX.ext hE
  replace HA1 := HA1.ext hE
  replace HB1 := HB1.ext hE
  clear hE
  go_simp
  refine (rof_any f _ (by omega)).mono ?_
  rintro e W2 ⟨Af, cf, rfl, HFL, hb⟩
  go_wp2_with fail
  refine hK.out _ _ hb ?_
  clear hK K
  replace HX := HX.ext hb
  replace HA1 := HA1.ext hb
  replace HB1 := HB1.ext hb
  clear hb
  try simp only [Act.put, List.setIfInBounds_toArray, List.set_cons_zero, List.set_cons_succ]
  skip
  refine wpX_step (i := 3) (by kernel_rfl) rfl (fun W1 K hE hK => ?_)
  replace HX := HX.ext hE
  replace HA1 := HA1.ext hE
  replace HB1 := HB1.ext hE
  replace HFL := HFL.ext hE
  clear hE
  go_simp
  refine (rmul_d _ HA1 HFL (by omega) (by omega)).mono ?_
  rintro e W2 ⟨AX, cX, rfl, LX, hb⟩
  rw [HX'.out] at LX
  rw [HX'.out]
  go_wp2_with fail
  refine hK.out _ _ hb ?_
  clear hK K
  replace HX := HX.ext hb
  replace HA1 := HA1.ext hb
  replace HB1 := HB1.ext hb
  replace HFL := HFL.ext hb
  clear hb
  try simp only [Act.put, List.setIfInBounds_toArray, List.set_cons_zero, List.set_cons_succ]
  skip
  refine wpX_end (by kernel_rfl) (fun W9 ga m hE hg hm => ?_)
  replace HX := HX.ext hE
  replace HA1 := HA1.ext hE
  replace HB1 := HB1.ext hE
  replace HFL := HFL.ext hE
  replace LX := LX.ext hE
  clear hE
  obtain ⟨hlgx, hkgx⟩ := hg.1 4 (by simp)
  clear hg
  simp only [putAll]
  try simp only [Act.put, List.setIfInBounds_toArray, List.set_cons_zero, List.set_cons_succ]
  generalize ga 4 = gx at *
  clear ga
  replace HX := HX.add hkgx
  clear hkgx
  simp only [List.cons_append, List.nil_append] at HX
  have hlw := HX.below.size
  have hc40 := HX.cell 4 0 rfl rfl
  have hf40 := HX.free 4 0 rfl
  simp only [] at hc40 hf40
  refine wpAny_step (i := 5) (by kernel_rfl) rfl (by omega) (fun K hK => ?_)
  go_simp
  refine hK.out _ _ ?_
  clear hK K
  clear hc40 hf40
  have hk := HX.keep1 4 rfl rfl (.slice AX (dig X).length cX)
  replace HX := HX.put1 4 rfl (by omega) (by intro k q hk hne; match k, hk with | 0, hk => (simp at hk; subst hk; simp at hne ⊢; try omega) | 1, hk => (simp at hk; subst hk; simp at hne ⊢; try omega) | 2, hk => (simp at hk; subst hk; simp at hne ⊢; try omega) | 3, hk => (simp at hk; subst hk; simp at hne ⊢; try omega) | 4, hk => (simp at hk; subst hk; simp at hne ⊢; try omega) | k + 5, hk => simp at hk) (.slice AX (dig X).length cX)
  replace HA1 := HA1.stay hk
  replace HB1 := HB1.stay hk
  replace HFL := HFL.stay hk
  replace LX := LX.stay hk
  clear hk
  simp only [List.set_cons_zero, List.set_cons_succ] at HX
  refine wpAny_done (by kernel_rfl) ?_ _
  clear hlw
  clear HFL
  generalize W9.setCell ⟨gx, 0, none⟩ (.slice AX (dig X).length cX) = V9 at *
  go_wp2_with fail
  have lt100 := HX.lt 0 rfl
  have lt101 := HX.lt 1 rfl
  have lt102 := HX.lt 2 rfl
  have lt103 := HX.lt 3 rfl
  have lt104 := HX.lt 4 rfl
  simp only [] at lt100 lt101 lt102 lt103 lt104
  refine wp_region_x (al := [4]) (late := []) (dst := fun i => 10) (zt := fun _ => (#[.slice none 0 0], 31)) (B := V9.heap.size) (n := 4) (r := 1) (by kernel_rfl) (by kernel_rfl) (by decide) ?_ (by kernel_rfl) (by kernel_rfl) (by intro _ _ _ d _ h; cases d <;> exact h) (sz := 6) (by rfl) (by rfl) (Nat.le_refl _) ?_
  · intro i hi
    simp only [List.mem_cons, List.not_mem_nil, or_false] at hi
    subst hi
    exact ⟨_, rfl, rfl, rfl, rfl, fun _ _ => by kernel_rfl⟩
  have hE : Ext V9 V9.drew := drew_ext V9
  replace HX := HX.ext hE
  replace HA1 := HA1.ext hE
  replace HB1 := HB1.ext hE
  replace LX := LX.ext hE
  clear hE
  refine wpX_take (i := 0) (v := .agg #[.slice (some bd) (dig b).length c2]) rfl (by kernel_rfl) (by kernel_rfl) (by kernel_rfl) (fun _ _ _ h => h) (Or.inl ⟨by rfl, fun W hW => ?_⟩) ?_
  · have h0 := (HX.ext hW).cell 1 0 rfl rfl
    simp only [] at h0
    go_simp
    try rfl
  try simp only [Act.put, List.setIfInBounds_toArray]
  refine wpX_take (i := 1) (v := .int .u64 (f : Int)) rfl (by kernel_rfl) (by kernel_rfl) (by kernel_rfl) (fun _ _ _ h => h) (Or.inl ⟨by rfl, fun W hW => ?_⟩) ?_
  · go_simp
    try rfl
  try simp only [Act.put]
  refine wpX_step (i := 2) (by kernel_rfl) rfl (fun W1 K hE hK => ?_)
  replace HX := HX.ext hE
  replace HA1 := HA1.ext hE
  replace HB1 := HB1.ext hE
  replace LX := LX.ext hE
  clear hE
  go_simp
  refine (rof_any f _ (by omega)).mono ?_
  rintro e W2 ⟨Af, cf, rfl, HFL, hb⟩
  go_wp2_with fail
  refine hK.out _ _ hb ?_
  clear hK K
  replace HX := HX.ext hb
  replace HA1 := HA1.ext hb
  replace HB1 := HB1.ext hb
  replace LX := LX.ext hb
  clear hb
  try simp only [Act.put, List.setIfInBounds_toArray, List.set_cons_zero, List.set_cons_succ]
  skip
  refine wpX_step (i := 3) (by kernel_rfl) rfl (fun W1 K hE hK => ?_)
  replace HX := HX.ext hE
  replace HA1 := HA1.ext hE
  replace HB1 := HB1.ext hE
  replace LX := LX.ext hE
  replace HFL := HFL.ext hE
  clear hE
  go_simp
  refine (rmul_d _ HB1 HFL (by omega) (by omega)).mono ?_
  rintro e W2 ⟨AY, cY, rfl, LY, hb⟩
  rw [HY'.out] at LY
  rw [HY'.out]
  go_wp2_with fail
  refine hK.out _ _ hb ?_
  clear hK K
  replace HX := HX.ext hb
  replace HA1 := HA1.ext hb
  replace HB1 := HB1.ext hb
  replace LX := LX.ext hb
  replace HFL := HFL.ext hb
  clear hb
  try simp only [Act.put, List.setIfInBounds_toArray, List.set_cons_zero, List.set_cons_succ]
  skip
  refine wpX_end (by kernel_rfl) (fun W10 ga m hE hg hm => ?_)
  replace HX := HX.ext hE
  replace HA1 := HA1.ext hE
  replace HB1 := HB1.ext hE
  replace LX := LX.ext hE
  replace HFL := HFL.ext hE
  replace LY := LY.ext hE
  clear hE
  obtain ⟨hlgy, hkgy⟩ := hg.1 4 (by simp)
  clear hg
  simp only [putAll]
  try simp only [Act.put, List.setIfInBounds_toArray, List.set_cons_zero, List.set_cons_succ]
  generalize ga 4 = gy at *
  clear ga
  replace HX := HX.add hkgy
  clear hkgy
  simp only [List.cons_append, List.nil_append] at HX
  have hlw := HX.below.size
  have hc50 := HX.cell 5 0 rfl rfl
  have hf50 := HX.free 5 0 rfl
  simp only [] at hc50 hf50
  refine wpAny_step (i := 5) (by kernel_rfl) rfl (by omega) (fun K hK => ?_)
  go_simp
  refine hK.out _ _ ?_
  clear hK K
  clear hc50 hf50
  have hk := HX.keep1 5 rfl rfl (.slice AY (dig Y).length cY)
  replace HX := HX.put1 5 rfl (by omega) (by intro k q hk hne; match k, hk with | 0, hk => (simp at hk; subst hk; simp at hne ⊢; try omega) | 1, hk => (simp at hk; subst hk; simp at hne ⊢; try omega) | 2, hk => (simp at hk; subst hk; simp at hne ⊢; try omega) | 3, hk => (simp at hk; subst hk; simp at hne ⊢; try omega) | 4, hk => (simp at hk; subst hk; simp at hne ⊢; try omega) | 5, hk => (simp at hk; subst hk; simp at hne ⊢; try omega) | k + 6, hk => simp at hk) (.slice AY (dig Y).length cY)
  replace HA1 := HA1.stay hk
  replace HB1 := HB1.stay hk
  replace LX := LX.stay hk
  replace HFL := HFL.stay hk
  replace LY := LY.stay hk
  clear hk
  simp only [List.set_cons_zero, List.set_cons_succ] at HX
  refine wpAny_done (by kernel_rfl) ?_ _
  clear hlw
  clear HFL
  generalize W10.setCell ⟨gy, 0, none⟩ (.slice AY (dig Y).length cY) = V10 at *
  have lt6 := HX.lt 5 rfl
  simp only [] at lt6
  clear HA1 HB1
  obtain ⟨n0, hn0⟩ : ∃ n0, (dig b).length = n0 := ⟨_, rfl⟩
  have hY1 : (dig Y).length = n0 := by rw [HLY.out, hn0]
  have hn0p : 0 < n0 := by omega
  have hn0l : n0 ≤ 536870913 := by omega
  have hy2 : n0 ≤ (dig Y).length := by omega
  have hy3 : (dig Y).length ≤ n0 := by omega
  rw [hn0]
  have HN0 := Lib.hid hn0
  have HY1 := Lib.hid hY1.symm
  obtain ⟨yd, rfl, _, hcy⟩ := LY.cellAt (j := n0 - 1) (by omega)
  clear hn0 hY1
  have hdy0 := dig_Dig Y (n0 - 1)
  have hAX := LX.avoid (Nat.le_refl _)
  have hAY := LY.avoid (Nat.le_refl _)
  have hc40 := HX.cell 4 0 rfl rfl
  have hc50 := HX.cell 5 0 rfl rfl
  simp only [] at hc40 hc50
  go_wp2_with (at_make; refine wp_make EU _ rfl _ _ rfl _ _ (dig X).length rfl rfl (by omega) (by omega) (by omega) (by omega) ?_)
  intro W11 hown hb hlt11
  rw [ints_replicate] at hown
  have lt11 := HX.below.size
  replace HX := HX.ext hb
  replace LX := LX.ext hb
  replace LY := LY.ext hb
  clear hc40 hc50
  skip
  skip
  clear hb
  go_upto_region 14 with fail
  have hb := below_alloc W11 (.cells #[.slice none 0 0] 31)
  have ltr := HX.lt 5 rfl
  simp only [] at ltr
  replace hown := hown.ext hb
  replace HX := HX.new #[.slice none 0 0] 31
  simp only [List.cons_append, List.nil_append] at HX
  replace LX := LX.ext hb
  replace LY := LY.ext hb
  clear hb
  generalize W11.alloc (.cells #[.slice none 0 0] 31) = W13 at *
  generalize W11.heap.size = gr at *
  generalize V10.heap.size = gq at *
  have hc40 := HX.cell 4 0 rfl rfl
  simp only [] at hc40
  go_wp2_with fail
  clear hc40
  go_loopw [14] (fun iv wr => ∃ (k R : Nat) (qo : List Nat) (Ar : Option Addr) (cr : Nat), k ≤ (dig X).length ∧ ShortAt (dig X) Y k qo R ∧ iv = .int .i64 ((k : Int) - 1) ∧ BL w wr [(w.heap.size, #[.slice A1 (dig a).length c1], 31), (w.heap.size + 1, #[.slice (some bd) (dig b).length c2], 31), (w.heap.size + 2, #[.slice none 0 0], 31), (w.heap.size + 3, #[.slice none 0 0], 31), (gx, #[.slice AX (dig X).length cX], 31), (gy, #[.slice (some yd) (dig Y).length cY], 31), (gr, #[.slice Ar (dig R).length cr], 31)] ∧ Lim wr AX cX (dig X) ∧ Lim wr (some yd) cY (dig Y) ∧ Lim wr Ar cr (dig R) ∧ Avoid gq Ar (dig R).length ∧ Own wr gq 97 (some ⟨gq, 0, none⟩) (dig X).length (dig X).length (ints .u32 qo))
    (fun iv _ => (intOf iv + 1).toNat)
  case atStart => exact ⟨(dig X).length, 0, _, none, 0, Nat.le_refl _, ⟨by simp, Dig.replicate _, hYp, by rw [List.drop_of_length_le (Nat.le_refl _), List.drop_of_length_le (by simp), val_nil]; omega⟩, rfl, HX, LX, LY, Lim.nil _ _ _, fun h => absurd h (by simp [dig_zero]), hown⟩
  case round =>
    clear HX LX LY hown
    obtain ⟨k, R, qo, Ar, cr, hk, hS, rfl, HX, LX, LY, LR, hAR, hown⟩ := hrel
    have hRY := hS.lt
    have hRl : (dig R).length ≤ n0 := Nat.le_trans (dig_mono (Nat.le_of_lt hRY)) hy3
    by_cases hk0 : 0 < k
    · obtain ⟨j, rfl⟩ : ∃ j, k = j + 1 := ⟨k - 1, by omega⟩
      have hj : ((j + 1 : Nat) : Int) - 1 = j := by omega
      rw [hj]
      clear hj
      obtain ⟨xd, rfl, _, hcx⟩ := LX.cellAt (j := j) (by omega)
      have hdx := dig_Dig X j
      have hjx : (j : Int) < (dig X).length := by omega
      obtain ⟨P, hP⟩ : ∃ P, P = R * 1000000000 + at_ (dig X) j := ⟨_, rfl⟩
      obtain ⟨hnx, hq9⟩ := hS.next (by omega) (dig_Dig X) hP
      have hPY : P < 1000000000 * Y := by
        have : 1000000000 * (R + 1) ≤ 1000000000 * Y := Nat.mul_le_mul_left _ hRY
        omega
      have hPl : (dig P).length ≤ n0 + 1 := dig_len_le (Nat.lt_of_lt_of_le hPY (by rw [pw_succ]; exact Nat.mul_le_mul_left _ (Nat.le_trans (Nat.le_of_lt (dig_lt Y)) (pw_le hy3))))
      generalize hx : at_ (dig X) j = x at *
      have hPv : val ([x] ++ dig R) = P := by rw [List.cons_append, List.nil_append, val_cons, val_dig, hP]; omega
      have HPV := Lib.hid hPv
      have HXJ := Lib.hid hx
      have HPP := Lib.hid hP
      clear hx hP hPv
      go_upto_region 17 with fail
      skip
      refine wp_region_x (al := []) (late := [11]) (dst := fun i => 0) (zt := fun _ => (#[], 0)) (B := wr.heap.size) (n := 11) (r := 1) (by kernel_rfl) (by kernel_rfl) (by decide) ?_ (by kernel_rfl) (by kernel_rfl) (by intro _ _ _ d _ h; cases d <;> exact h) (sz := 12) (by rfl) (by rfl) (Nat.le_refl _) ?_
      · intro i hi; cases hi
      have hE : Ext wr wr.drew := drew_ext wr
      replace HX := HX.ext hE
      replace LX := LX.ext hE
      replace LY := LY.ext hE
      replace LR := LR.ext hE
      replace hown := hown.ext hE
      clear hE
      refine wpX_take (i := 0) (v := .pointer (some ⟨gx, 0, none⟩)) rfl (by kernel_rfl) (by kernel_rfl) (by kernel_rfl) (fun _ _ _ h => h) (Or.inl ⟨by rfl, fun W hW => ?_⟩) ?_
      · go_simp
        try rfl
      try simp only [Act.put, List.setIfInBounds_toArray]
      refine wpX_take (i := 1) (v := .slice (some xd) (dig X).length cX) rfl (by kernel_rfl) (by kernel_rfl) (by kernel_rfl) (fun _ _ _ h => h) (Or.inl ⟨by rfl, fun W hW => ?_⟩) ?_
      · have h0 := (HX.ext hW).cell 4 0 rfl rfl
        simp only [] at h0
        go_simp
        try rfl
      try simp only [Act.put]
      refine wpX_take (i := 2) (v := .int .i64 (j : Int)) rfl (by kernel_rfl) (by kernel_rfl) (by kernel_rfl) (fun _ _ _ h => h) (Or.inl ⟨by rfl, fun W hW => ?_⟩) ?_
      · go_simp
        try rfl
      try simp only [Act.put]
      refine wpX_take (i := 3) (v := .pointer (some (xd.add j))) rfl (by kernel_rfl) (by kernel_rfl) (by kernel_rfl) (fun _ _ _ h => h) (Or.inl ⟨by rfl, fun W hW => ?_⟩) ?_
      · go_simp
        try rfl
      try simp only [Act.put]
      refine wpX_take (i := 4) (v := .int .u32 (x : Int)) rfl (by kernel_rfl) (by kernel_rfl) (by kernel_rfl) (fun _ _ _ h => h) (Or.inl ⟨by rfl, fun W hW => ?_⟩) ?_
      · obtain ⟨xe, he, _, h0⟩ := (LX.ext hW).cellAt (j := j) (by omega)
        rw [HXJ.out] at h0
        obtain rfl := Option.some.inj he
        go_simp
        try rfl
      try simp only [Act.put]
      refine wpX_take (i := 6) (v := .pointer (some ⟨gr, 0, none⟩)) rfl (by kernel_rfl) (by kernel_rfl) (by kernel_rfl) (fun _ _ _ h => h) (Or.inl ⟨by rfl, fun W hW => ?_⟩) ?_
      · go_simp
        try rfl
      try simp only [Act.put]
      refine wpX_take (i := 7) (v := .slice Ar (dig R).length cr) rfl (by kernel_rfl) (by kernel_rfl) (by kernel_rfl) (fun _ _ _ h => h) (Or.inl ⟨by rfl, fun W hW => ?_⟩) ?_
      · have h0 := (HX.ext hW).cell 6 0 rfl rfl
        simp only [] at h0
        go_simp
        try rfl
      try simp only [Act.put]
      refine wpX_step (i := 5) (by kernel_rfl) rfl (fun W1 K hE hK => ?_)
      replace HX := HX.ext hE
      replace LX := LX.ext hE
      replace LY := LY.ext hE
      replace LR := LR.ext hE
      replace hown := hown.ext hE
      clear hE
      go_simp
      refine hK.out _ _ (below_alloc _ _) ?_
      clear hK K
      have HL1 := Lim.lit1 W1 97 (x := x) (by omega)
      have hb := below_alloc W1 (.cells #[.int .u32 (x : Int)] 97)
      replace HX := HX.ext hb
      replace LX := LX.ext hb
      replace LY := LY.ext hb
      replace LR := LR.ext hb
      replace hown := hown.ext hb
      clear hb
      try simp only [Act.put, List.setIfInBounds_toArray, List.set_cons_zero, List.set_cons_succ]
      generalize W1.alloc (.cells #[.int .u32 (x : Int)] 97) = W2 at *
      generalize W1.heap.size = g1 at *
      refine wpX_step (i := 8) (by kernel_rfl) rfl (fun W1 K hE hK => ?_)
      replace HX := HX.ext hE
      replace LX := LX.ext hE
      replace LY := LY.ext hE
      replace LR := LR.ext hE
      replace HL1 := HL1.ext hE
      replace hown := hown.ext hE
      clear hE
      refine step_append_full EU W1 rfl (.tmp 79) (.tmp 81) rfl (by rfl) (by rfl) HL1 LR rfl rfl (by omega) ?_
      intro A5 c5 W3 HP5 hb _
      refine hK.out _ _ hb ?_
      clear hK K
      replace HX := HX.ext hb
      replace LX := LX.ext hb
      replace LY := LY.ext hb
      replace LR := LR.ext hb
      replace HL1 := HL1.ext hb
      replace hown := hown.ext hb
      clear hb
      try simp only [Act.put, List.setIfInBounds_toArray]
      clear HL1
      refine wpX_take (i := 9) (v := .agg #[.slice A5 (1 + (dig R).length) c5]) rfl (by kernel_rfl) (by kernel_rfl) (by kernel_rfl) (fun _ _ _ h => h) (Or.inl ⟨by rfl, fun W hW => ?_⟩) ?_
      · go_simp
        try rfl
      try simp only [Act.put]
      have hgq := hown.lt
      refine wpX_step (i := 10) (by kernel_rfl) rfl (fun W1 K hE hK => ?_)
      have hE2 := hE.size
      replace HX := HX.ext hE
      replace LX := LX.ext hE
      replace LY := LY.ext hE
      replace LR := LR.ext hE
      replace HP5 := HP5.ext hE
      replace hown := hown.ext hE
      clear hE
      go_simp
      refine (rnorm_new A5 _ c5 ([x] ++ dig R) W1 HP5 (by simp; omega) (by omega)).mono ?_
      rintro e W4 ⟨AP, cP, rfl, LP, hb, hAP⟩
      rw [HPV.out] at LP hAP
      rw [HPV.out]
      replace hAP := hAP gq (by omega)
      go_wp2_with fail
      refine hK.out _ _ hb ?_
      clear hK K
      replace HX := HX.ext hb
      replace LX := LX.ext hb
      replace LY := LY.ext hb
      replace LR := LR.ext hb
      replace HP5 := HP5.ext hb
      replace hown := hown.ext hb
      clear hb
      try simp only [Act.put, List.setIfInBounds_toArray, List.set_cons_zero, List.set_cons_succ]
      clear HP5 hgq hE2
      clear LR hAR
      refine wpX_end (by kernel_rfl) (fun W5 ga m hE hg hm => ?_)
      replace HX := HX.ext hE
      replace LX := LX.ext hE
      replace LY := LY.ext hE
      replace LP := LP.ext hE
      replace hown := hown.ext hE
      clear hE
      clear hg
      simp only [putAll, setAll]
      clear ga
      have hc60 := HX.cell 6 0 rfl rfl
      have hf60 := HX.free 6 0 rfl
      simp only [] at hc60 hf60
      refine wpAny_step (i := 11) (by kernel_rfl) rfl (by omega) (fun K hK => ?_)
      go_simp
      refine hK.out _ _ ?_
      clear hK K
      clear hc60 hf60
      have hk := HX.keep1 6 rfl rfl (.slice AP (dig P).length cP)
      replace HX := HX.put1 6 rfl (by omega) (by intro k q hk hne; match k, hk with | 0, hk => (simp at hk; subst hk; simp at hne ⊢; try omega) | 1, hk => (simp at hk; subst hk; simp at hne ⊢; try omega) | 2, hk => (simp at hk; subst hk; simp at hne ⊢; try omega) | 3, hk => (simp at hk; subst hk; simp at hne ⊢; try omega) | 4, hk => (simp at hk; subst hk; simp at hne ⊢; try omega) | 5, hk => (simp at hk; subst hk; simp at hne ⊢; try omega) | 6, hk => (simp at hk; subst hk; simp at hne ⊢; try omega) | k + 7, hk => simp at hk) (.slice AP (dig P).length cP)
      replace LX := LX.stay hk
      replace LY := LY.stay hk
      replace LP := LP.stay hk
      replace hown := hown.far (p := ⟨gr, 0, none⟩) (show gr ≠ gq by omega) (.slice AP (dig P).length cP)
      clear hk
      simp only [List.set_cons_zero, List.set_cons_succ] at HX
      refine wpAny_done (by kernel_rfl) ?_ _
      generalize W5.setCell ⟨gr, 0, none⟩ (.slice AP (dig P).length cP) = V5 at *
      have hc60 := HX.cell 6 0 rfl rfl
      simp only [] at hc60
      have hPI : ((dig P).length : Int) ≤ (n0 : Int) + 1 := by omega
      go_upto_if 89 with fail
      go_cut [15] (fun gv wx => ∃ g0 : Nat, gv = .int .u64 (g0 : Int) ∧ wx = V5 ∧ g0 ≤ 999999999000000000 ∧ ((dig P).length ≤ n0 → g0 = 0) ∧ ((dig P).length = n0 + 1 → g0 = at_ (dig P) n0 * 1000000000))
      case first =>
        by_cases hgt : n0 < (dig P).length
        · obtain ⟨pd, rfl, _, hcp⟩ := LP.cellAt (j := n0) hgt
          have hdp := dig_Dig P n0
          have hgI : (n0 : Int) < (dig P).length := by omega
          have hgB : decide ((n0 : Int) < ((dig P).length : Int)) = true := decide_eq_true hgI
          go_wp2
          go_meet
          case rel => exact ⟨at_ (dig P) n0 * 1000000000, by go_num, rfl, by omega, fun h => absurd h (by omega), fun _ => rfl⟩
        · have hgB : decide ((n0 : Int) < ((dig P).length : Int)) = false := decide_eq_false (by omega)
          go_wp2
          go_meet
          case rel => exact ⟨0, rfl, rfl, by omega, fun _ => rfl, fun h => absurd h (by omega)⟩
      case rest =>
        obtain ⟨g0, rfl, hw5, hg0, hg1, hg2⟩ := hcut
        subst wc
        have HG1 := Lib.hid hg1
        have HG2 := Lib.hid hg2
        clear hg1 hg2
        go_upto_if 101 with fail
        go_cut [15] (fun gv wx => ∃ g : Nat, gv = .int .u64 (g : Int) ∧ wx = V5 ∧ P / Y ≤ g ∧ g ≤ 999999999)
        case first =>
          by_cases hge : n0 ≤ (dig P).length
          · obtain ⟨pd, rfl, _, hcp⟩ := LP.cellAt (j := n0 - 1) (by omega)
            have hdp := dig_Dig P (n0 - 1)
            have hdy := hdy0
            obtain ⟨hgu, hty⟩ := guess_ge HY1.out hYp hPY HG1.out HG2.out hge
            have hgB : decide ((n0 : Int) ≤ ((dig P).length : Int)) = true := decide_eq_true (by omega)
            have hgI : ((n0 : Int) - 1) < (dig P).length := by omega
            generalize ht : at_ (dig Y) (n0 - 1) = top at *
            have HT := Lib.hid ht
            generalize hu : at_ (dig P) (n0 - 1) = u at *
            have HU := Lib.hid hu
            clear ht hu
            obtain ⟨q, hq⟩ : ∃ q, (g0 + u) / top = q := ⟨_, rfl⟩
            have hqI : ((g0 : Int) + (u : Int)) / (top : Int) = (q : Int) := by rw [← hq, Int.natCast_ediv]; rfl
            rw [hq] at hgu
            have hqb : q ≤ 1000000000000000000 := by rw [← hq]; exact Nat.le_trans (Nat.div_le_self _ _) (by omega)
            clear hq
            have htz : ((top : Int) == 0) = false := beq_eq_false_iff_ne.2 (by omega)
            by_cases hqm : q ≤ 999999999
            · have hmin : min q 999999999 = q := Nat.min_eq_left hqm
              rw [hmin] at hgu
              have hmI : (q : Int) ≤ 999999999 := by omega
              clear hmin
              go_wp2
              go_meet
              case rel => exact ⟨q, by go_num, rfl, hgu, by omega⟩
            · have hmin : min q 999999999 = 999999999 := Nat.min_eq_right (by omega)
              rw [hmin] at hgu
              have hmI : (999999999 : Int) < (q : Int) := by omega
              clear hmin
              go_wp2
              go_meet
              case rel => exact ⟨999999999, by go_num, rfl, hgu, by omega⟩
          · have hgB : decide ((n0 : Int) ≤ ((dig P).length : Int)) = false := decide_eq_false (by omega)
            have hz := HG1.out (by omega)
            have hsq := small_quot HY1.out (P := P) (by omega)
            subst hz
            go_wp2
            go_meet
            case rel => exact ⟨0, rfl, rfl, hsq, by omega⟩
        case rest =>
          obtain ⟨g, rfl, hw5, hgq, hgm⟩ := hcut
          subst wc
          clear HG1 HG2 hg0
          go_wp2_with fail
          have hYg : ∀ x : Nat, x ≤ 999999999 → (dig (Y * x)).length ≤ n0 + 1 := fun x hx => dig_len_le (by
            rw [pw_succ, Nat.mul_comm]
            exact Nat.lt_of_lt_of_le (Nat.mul_lt_mul_of_le_of_lt hx (dig_lt Y) (by omega)) (Nat.mul_le_mul (by omega) (pw_le hy3)))
          have hYG := Lib.hid hYg
          clear hYg
          have hlg : (dig g).length ≤ 1 := dig_len_le (by rw [pw, Nat.pow_one]; omega)
          have hlYg := hYG.out g hgm
          have ls0 := HX.lt 0 rfl
          have ls1 := HX.lt 1 rfl
          have ls2 := HX.lt 2 rfl
          have ls3 := HX.lt 3 rfl
          have ls4 := HX.lt 4 rfl
          have ls5 := HX.lt 5 rfl
          have ls6 := HX.lt 6 rfl
          have lsq := hown.lt
          simp only [] at ls0 ls1 ls2 ls3 ls4 ls5 ls6
          refine wp_region_x (al := [4]) (late := []) (dst := fun i => 16) (zt := fun _ => (#[.slice none 0 0], 31)) (B := V5.heap.size) (n := 4) (r := 1) (by kernel_rfl) (by kernel_rfl) (by decide) ?_ (by kernel_rfl) (by kernel_rfl) (by intro _ _ _ d _ h; cases d <;> exact h) (sz := 6) (by rfl) (by rfl) (Nat.le_refl _) ?_
          · intro i hi
            simp only [List.mem_cons, List.not_mem_nil, or_false] at hi
            subst hi
            exact ⟨_, rfl, rfl, rfl, rfl, fun _ _ => by kernel_rfl⟩
          have hE : Ext V5 V5.drew := drew_ext V5
          replace HX := HX.ext hE
          replace LX := LX.ext hE
          replace LY := LY.ext hE
          replace LP := LP.ext hE
          replace hown := hown.ext hE
          clear hE
          refine wpX_take (i := 0) (v := .agg #[.slice (some yd) (dig Y).length cY]) rfl (by kernel_rfl) (by kernel_rfl) (by kernel_rfl) (fun _ _ _ h => h) (Or.inl ⟨by rfl, fun W hW => ?_⟩) ?_
          · have h0 := (HX.ext hW).cell 5 0 rfl rfl
            simp only [] at h0
            go_simp
            try rfl
          try simp only [Act.put, List.setIfInBounds_toArray]
          refine wpX_take (i := 1) (v := .int .u64 (g : Int)) rfl (by kernel_rfl) (by kernel_rfl) (by kernel_rfl) (fun _ _ _ h => h) (Or.inl ⟨by rfl, fun W hW => ?_⟩) ?_
          · go_simp
            try rfl
          try simp only [Act.put]
          refine wpX_step (i := 2) (by kernel_rfl) rfl (fun W1 K hE hK => ?_)
          replace HX := HX.ext hE
          replace LX := LX.ext hE
          replace LY := LY.ext hE
          replace LP := LP.ext hE
          replace hown := hown.ext hE
          clear hE
          go_simp
          refine (rof_any g _ (by omega)).mono ?_
          rintro e W2 ⟨Af, cf, rfl, HFL, hb⟩
          go_wp2_with fail
          refine hK.out _ _ hb ?_
          clear hK K
          replace HX := HX.ext hb
          replace LX := LX.ext hb
          replace LY := LY.ext hb
          replace LP := LP.ext hb
          replace hown := hown.ext hb
          clear hb
          try simp only [Act.put, List.setIfInBounds_toArray, List.set_cons_zero, List.set_cons_succ]
          skip
          refine wpX_step (i := 3) (by kernel_rfl) rfl (fun W1 K hE hK => ?_)
          replace HX := HX.ext hE
          replace LX := LX.ext hE
          replace LY := LY.ext hE
          replace LP := LP.ext hE
          replace HFL := HFL.ext hE
          replace hown := hown.ext hE
          clear hE
          go_simp
          refine (rmul_d _ LY HFL (by omega) (by omega)).mono ?_
          rintro e W2 ⟨Ap, cp, rfl, LQ, hb⟩
          go_wp2_with fail
          refine hK.out _ _ hb ?_
          clear hK K
          replace HX := HX.ext hb
          replace LX := LX.ext hb
          replace LY := LY.ext hb
          replace LP := LP.ext hb
          replace HFL := HFL.ext hb
          replace hown := hown.ext hb
          clear hb
          try simp only [Act.put, List.setIfInBounds_toArray, List.set_cons_zero, List.set_cons_succ]
          skip
          refine wpX_end (by kernel_rfl) (fun W6 ga m hE hg hm => ?_)
          replace HX := HX.ext hE
          replace LX := LX.ext hE
          replace LY := LY.ext hE
          replace LP := LP.ext hE
          replace HFL := HFL.ext hE
          replace LQ := LQ.ext hE
          replace hown := hown.ext hE
          clear hE
          obtain ⟨hlgp, hkgp⟩ := hg.1 4 (by simp)
          clear hg
          simp only [putAll]
          try simp only [Act.put, List.setIfInBounds_toArray, List.set_cons_zero, List.set_cons_succ]
          generalize ga 4 = gp at *
          clear ga
          replace HX := HX.add hkgp
          clear hkgp
          simp only [List.cons_append, List.nil_append] at HX
          have hlw := HX.below.size
          have hc70 := HX.cell 7 0 rfl rfl
          have hf70 := HX.free 7 0 rfl
          simp only [] at hc70 hf70
          refine wpAny_step (i := 5) (by kernel_rfl) rfl (by omega) (fun K hK => ?_)
          go_simp
          refine hK.out _ _ ?_
          clear hK K
          clear hc70 hf70
          have hk := HX.keep1 7 rfl rfl (.slice Ap (dig (Y * g)).length cp)
          replace HX := HX.put1 7 rfl (by omega) (by intro k q hk hne; match k, hk with | 0, hk => (simp at hk; subst hk; simp at hne ⊢; try omega) | 1, hk => (simp at hk; subst hk; simp at hne ⊢; try omega) | 2, hk => (simp at hk; subst hk; simp at hne ⊢; try omega) | 3, hk => (simp at hk; subst hk; simp at hne ⊢; try omega) | 4, hk => (simp at hk; subst hk; simp at hne ⊢; try omega) | 5, hk => (simp at hk; subst hk; simp at hne ⊢; try omega) | 6, hk => (simp at hk; subst hk; simp at hne ⊢; try omega) | 7, hk => (simp at hk; subst hk; simp at hne ⊢; try omega) | k + 8, hk => simp at hk) (.slice Ap (dig (Y * g)).length cp)
          replace LX := LX.stay hk
          replace LY := LY.stay hk
          replace LP := LP.stay hk
          replace HFL := HFL.stay hk
          replace LQ := LQ.stay hk
          replace hown := hown.far (p := ⟨gp, 0, none⟩) (show gp ≠ gq by omega) (.slice Ap (dig (Y * g)).length cp)
          clear hk
          simp only [List.set_cons_zero, List.set_cons_succ] at HX
          refine wpAny_done (by kernel_rfl) ?_ _
          clear HFL hlw
          generalize W6.setCell ⟨gp, 0, none⟩ (.slice Ap (dig (Y * g)).length cp) = V6 at *
          go_wp2_with fail
          go_loopw [15] (fun gv wx => ∃ (g : Nat) (Ap : Option Addr) (cp : Nat), gv = .int .u64 (g : Int) ∧ P / Y ≤ g ∧ g ≤ 999999999 ∧ BL w wx [(w.heap.size, #[.slice A1 (dig a).length c1], 31), (w.heap.size + 1, #[.slice (some bd) (dig b).length c2], 31), (w.heap.size + 2, #[.slice none 0 0], 31), (w.heap.size + 3, #[.slice none 0 0], 31), (gx, #[.slice (some xd) (dig X).length cX], 31), (gy, #[.slice (some yd) (dig Y).length cY], 31), (gr, #[.slice AP (dig P).length cP], 31), (gp, #[.slice Ap (dig (Y * g)).length cp], 31)] ∧ Lim wx (some xd) cX (dig X) ∧ Lim wx (some yd) cY (dig Y) ∧ Lim wx AP cP (dig P) ∧ Lim wx Ap cp (dig (Y * g)) ∧ Own wx gq 97 (some ⟨gq, 0, none⟩) (dig X).length (dig X).length (ints .u32 qo))
            (fun gv _ => (intOf gv).toNat)
          case atStart => exact ⟨g, Ap, cp, rfl, hgq, hgm, HX, LX, LY, LP, LQ, hown⟩
          case round =>
            clear HX LX LY LP LQ hown hgq hgm hlg hlYg
            obtain ⟨g, Ap, cp, rfl, hgq, hgm, HX, LX, LY, LP, LQ, hown⟩ := hrel
            have hlYg := hYG.out g hgm
            by_cases hlt : P < Y * g
            · have hcm : decide (0 < cmpI (Y * g) P) = true := decide_eq_true (by rw [cmpI_gt hlt]; omega)
              have hg1 : 1 ≤ g := by
                rcases Nat.eq_zero_or_pos g with h | h
                · subst h; omega
                · exact h
              have hqg : P / Y ≤ g - 1 := by
                have : P / Y < g := (Nat.div_lt_iff_lt_mul hYp).2 (by rw [Nat.mul_comm]; exact hlt)
                omega
              have hsub : Y * g - Y = Y * (g - 1) := by rw [Nat.mul_sub, Nat.mul_one]
              have hle : Y ≤ Y * g := Nat.le_mul_of_pos_right _ hg1
              have HS2 := Lib.hid hsub
              clear hsub hlt
              have hc60 := HX.cell 6 0 rfl rfl
              have hc70 := HX.cell 7 0 rfl rfl
              simp only [] at hc60 hc70
              go_wp2_with fail
              refine (rcmp_d _ LQ LP (by omega) (by omega)).mono ?_
              rintro e W7 ⟨rfl, hb⟩
              clear hc60 hc70
              replace HX := HX.ext hb
              replace LX := LX.ext hb
              replace LY := LY.ext hb
              replace LP := LP.ext hb
              replace LQ := LQ.ext hb
              replace hown := hown.ext hb
              clear hb
              have hc50 := HX.cell 5 0 rfl rfl
              have hc70 := HX.cell 7 0 rfl rfl
              simp only [] at hc50 hc70
              go_wp2_with fail
              refine (rsub_d _ LQ LY (by omega) (by omega) hle).mono ?_
              rintro e W8 ⟨Ap2, cp2, rfl, LQ2, hb, _⟩
              rw [HS2.out] at LQ2
              rw [HS2.out]
              clear hc50 hc70
              clear LQ
              replace HX := HX.ext hb
              replace LX := LX.ext hb
              replace LY := LY.ext hb
              replace LP := LP.ext hb
              replace hown := hown.ext hb
              clear hb
              have hc70 := HX.cell 7 0 rfl rfl
              have hf70 := HX.free 7 0 rfl
              simp only [] at hc70 hf70
              go_upto_region 26 with fail
              clear hc70 hf70
              have hk := HX.keep1 7 rfl rfl (.slice Ap2 (dig (Y * (g - 1))).length cp2)
              replace HX := HX.put1 7 rfl (by omega) (by intro k q hk hne; match k, hk with | 0, hk => (simp at hk; subst hk; simp at hne ⊢; try omega) | 1, hk => (simp at hk; subst hk; simp at hne ⊢; try omega) | 2, hk => (simp at hk; subst hk; simp at hne ⊢; try omega) | 3, hk => (simp at hk; subst hk; simp at hne ⊢; try omega) | 4, hk => (simp at hk; subst hk; simp at hne ⊢; try omega) | 5, hk => (simp at hk; subst hk; simp at hne ⊢; try omega) | 6, hk => (simp at hk; subst hk; simp at hne ⊢; try omega) | 7, hk => (simp at hk; subst hk; simp at hne ⊢; try omega) | k + 8, hk => simp at hk) (.slice Ap2 (dig (Y * (g - 1))).length cp2)
              replace LX := LX.stay hk
              replace LY := LY.stay hk
              replace LP := LP.stay hk
              replace LQ2 := LQ2.stay hk
              replace hown := hown.far (p := ⟨gp, 0, none⟩) (show gp ≠ gq by omega) (.slice Ap2 (dig (Y * (g - 1))).length cp2)
              clear hk
              simp only [List.set_cons_zero, List.set_cons_succ] at HX
              generalize W8.setCell ⟨gp, 0, none⟩ (.slice Ap2 (dig (Y * (g - 1))).length cp2) = V8 at *
              go_wp2_with fail
              go_roundw
              case rel => exact ⟨g - 1, Ap2, cp2, by go_num, hqg, by omega, HX, LX, LY, LP, LQ2, hown⟩
              case measure => simp [intOf]; omega
            · have hge : Y * g ≤ P := by omega
              have hcm : decide (0 < cmpI (Y * g) P) = false := decide_eq_false (by
                rcases Nat.lt_or_ge (Y * g) P with h | h
                · rw [cmpI_lt h]; omega
                · rw [cmpI_eq (by omega)]; omega)
              have hgP : P / Y = g := Nat.le_antisymm hgq ((Nat.le_div_iff_mul_le hYp).2 (by rw [Nat.mul_comm]; exact hge))
              have hPm : P - Y * g = P % Y := by have := Nat.div_add_mod P Y; rw [hgP] at this; omega
              rw [hgP] at hnx
              have hml : (dig (P % Y)).length ≤ n0 + 1 := Nat.le_trans (dig_mono (Nat.mod_le _ _)) hPl
              have HPM := Lib.hid hPm
              clear hPm hgP hlt
              have hc60 := HX.cell 6 0 rfl rfl
              have hc70 := HX.cell 7 0 rfl rfl
              simp only [] at hc60 hc70
              go_wp2_with fail
              refine (rcmp_d _ LQ LP (by omega) (by omega)).mono ?_
              rintro e W7 ⟨rfl, hb⟩
              clear hc60 hc70
              replace HX := HX.ext hb
              replace LX := LX.ext hb
              replace LY := LY.ext hb
              replace LP := LP.ext hb
              replace LQ := LQ.ext hb
              replace hown := hown.ext hb
              clear hb
              have hc60 := HX.cell 6 0 rfl rfl
              have hc70 := HX.cell 7 0 rfl rfl
              simp only [] at hc60 hc70
              go_wp2_with fail
              have hgq2 := hown.lt
              refine (rsub_d _ LP LQ (by omega) (by omega) hge).mono ?_
              rintro e W8 ⟨AR, cR, rfl, LR, hb, hAR⟩
              rw [HPM.out] at LR hAR
              rw [HPM.out]
              replace hAR := hAR gq hgq2
              clear hgq2 LP LQ
              clear hc60 hc70
              replace HX := HX.ext hb
              replace LX := LX.ext hb
              replace LY := LY.ext hb
              replace hown := hown.ext hb
              clear hb
              have hc60 := HX.cell 6 0 rfl rfl
              have hf60 := HX.free 6 0 rfl
              simp only [] at hc60 hf60
              go_upto_region 28 with fail
              clear hc60 hf60
              have hk := HX.keep1 6 rfl rfl (.slice AR (dig (P % Y)).length cR)
              replace HX := HX.put1 6 rfl (by omega) (by intro k q hk hne; match k, hk with | 0, hk => (simp at hk; subst hk; simp at hne ⊢; try omega) | 1, hk => (simp at hk; subst hk; simp at hne ⊢; try omega) | 2, hk => (simp at hk; subst hk; simp at hne ⊢; try omega) | 3, hk => (simp at hk; subst hk; simp at hne ⊢; try omega) | 4, hk => (simp at hk; subst hk; simp at hne ⊢; try omega) | 5, hk => (simp at hk; subst hk; simp at hne ⊢; try omega) | 6, hk => (simp at hk; subst hk; simp at hne ⊢; try omega) | 7, hk => (simp at hk; subst hk; simp at hne ⊢; try omega) | k + 8, hk => simp at hk) (.slice AR (dig (P % Y)).length cR)
              replace LX := LX.stay hk
              replace LY := LY.stay hk
              replace LR := LR.stay hk
              replace hown := hown.far (p := ⟨gr, 0, none⟩) (show gr ≠ gq by omega) (.slice AR (dig (P % Y)).length cR)
              clear hk
              simp only [List.set_cons_zero, List.set_cons_succ] at HX
              generalize W8.setCell ⟨gr, 0, none⟩ (.slice AR (dig (P % Y)).length cR) = V8 at *
              have hqlen := hnx.len
              have hc3 := hown.cellAt (j := j) (by have := hS.len; omega)
              have hf3 := hown.freeAt j
              clear hqlen
              go_upto_region 16 with fail
              clear hc3 hf3
              replace HX := (HX.take 7)
              simp only [List.take_succ_cons, List.take_zero] at HX
              replace HX := HX.far (p := ⟨gq, j, none⟩) (by simp; omega) (by intro k q hk; match k, hk with | 0, hk => (simp at hk; subst hk; simp; try omega) | 1, hk => (simp at hk; subst hk; simp; try omega) | 2, hk => (simp at hk; subst hk; simp; try omega) | 3, hk => (simp at hk; subst hk; simp; try omega) | 4, hk => (simp at hk; subst hk; simp; try omega) | 5, hk => (simp at hk; subst hk; simp; try omega) | 6, hk => (simp at hk; subst hk; simp; try omega) | k + 7, hk => simp at hk) (.int .u32 (g : Int))
              replace LX := LX.setCell (p := ⟨gq, j, none⟩) hAX (.int .u32 (g : Int))
              replace LY := LY.setCell (p := ⟨gq, j, none⟩) hAY (.int .u32 (g : Int))
              replace LR := LR.setCell (p := ⟨gq, j, none⟩) hAR (.int .u32 (g : Int))
              replace hown := Own.stored (j := j) hown (e := (g : Int)) (x := g) rfl
              generalize V8.setCell ⟨gq, j, none⟩ (.int .u32 (g : Int)) = V9 at *
              go_wp2_with fail
              go_roundw
              case rel => exact ⟨j, P % Y, qo.set j g, AR, cR, by omega, hnx, rfl, HX, LX, LY, LR, hAR, hown⟩
              case measure => simp [intOf]
    · obtain rfl : k = 0 := by omega
      have hv := hS.eq
      rw [List.drop_zero, List.drop_zero, val_dig] at hv
      have hqv : val qo = a / b := by rw [← HQ1.out, hv, Nat.mul_comm, Nat.mul_add_div hYp, Nat.div_eq_of_lt hRY, Nat.add_zero]
      have hrv : R / f = a % b := by rw [← HQ2.out, hv, Nat.mul_comm, Nat.mul_add_mod, Nat.mod_eq_of_lt hRY]
      have HQV := Lib.hid hqv
      have HRV := Lib.hid hrv
      have HQL := Lib.hid hS.len.symm
      clear hv hqv hrv LX LY
      have hc60 := HX.cell 6 0 rfl rfl
      simp only [] at hc60
      go_wp2_with (at_make; refine wp_make EU _ rfl _ _ rfl _ _ (dig R).length rfl rfl (by omega) (by omega) (by omega) (by omega) ?_)
      intro W20 hown2 hb hlt20
      rw [ints_replicate] at hown2
      have hAS := LR.avoid (Nat.le_refl _)
      have hgs := hown.lt
      have lz0 := HX.lt 0 rfl
      have lz1 := HX.lt 1 rfl
      have lz2 := HX.lt 2 rfl
      have lz3 := HX.lt 3 rfl
      have lz4 := HX.lt 4 rfl
      have lz5 := HX.lt 5 rfl
      have lz6 := HX.lt 6 rfl
      simp only [] at lz0 lz1 lz2 lz3 lz4 lz5 lz6
      clear hc60
      replace HX := HX.ext hb
      replace LR := LR.ext hb
      replace hown := hown.ext hb
      clear hb
      generalize wr.heap.size = gs at *
      have hc60 := HX.cell 6 0 rfl rfl
      simp only [] at hc60
      go_wp2_with fail
      clear hc60
      go_loopw [18, 19] (fun cv iv wx => ∃ (k : Nat) (o : List Nat) (r0 : Nat), k ≤ (dig R).length ∧ ShortAt (dig R) f k o r0 ∧ cv = .int .u64 (r0 : Int) ∧ iv = .int .i64 ((k : Int) - 1) ∧ BL w wx [(w.heap.size, #[.slice A1 (dig a).length c1], 31), (w.heap.size + 1, #[.slice (some bd) (dig b).length c2], 31), (w.heap.size + 2, #[.slice none 0 0], 31), (w.heap.size + 3, #[.slice none 0 0], 31), (gx, #[.slice AX (dig X).length cX], 31), (gy, #[.slice (some yd) (dig Y).length cY], 31), (gr, #[.slice Ar (dig R).length cr], 31)] ∧ Lim wx Ar cr (dig R) ∧ Own wx gq 97 (some ⟨gq, 0, none⟩) (dig X).length (dig X).length (ints .u32 qo) ∧ Own wx gs 97 (some ⟨gs, 0, none⟩) (dig R).length (dig R).length (ints .u32 o))
        (fun _ iv _ => (intOf iv + 1).toNat)
      case atStart => exact ⟨(dig R).length, _, 0, Nat.le_refl _, ⟨by simp, Dig.replicate _, hf0, by rw [List.drop_of_length_le (Nat.le_refl _), List.drop_of_length_le (by simp), val_nil]; omega⟩, rfl, rfl, HX, LR, hown, hown2⟩
      case round =>
        clear HX LR hown hown2
        obtain ⟨k, o, r0, hk, hS2, rfl, rfl, HX, LR, hown, hown2⟩ := hrel
        have hr0 := hS2.lt
        by_cases hk0 : 0 < k
        · obtain ⟨j, rfl⟩ : ∃ j, k = j + 1 := ⟨k - 1, by omega⟩
          have hj : ((j + 1 : Nat) : Int) - 1 = j := by omega
          rw [hj]
          clear hj
          obtain ⟨rd, rfl, _, hcr⟩ := LR.cellAt (j := j) (by omega)
          have hdr2 := dig_Dig R j
          have hjr : (j : Int) < (dig R).length := by omega
          obtain ⟨hnx, hq⟩ := hS2.next (by omega) (dig_Dig R) rfl
          have hc3 := hown2.cellAt (j := j) (by have := hS2.len; omega)
          have hf3 := hown2.freeAt j
          generalize hx : at_ (dig R) j = x at hcr hdr2 hq hnx
          have HXX := Lib.hid hx
          clear hx
          have eq1 : ((r0 : Int) * 1000000000 + (x : Int)) / (f : Int) = (((r0 * 1000000000 + x) / f : Nat) : Int) := by rw [Int.natCast_ediv]; congr 1
          have eq2 : ((r0 : Int) * 1000000000 + (x : Int)) % (f : Int) = (((r0 * 1000000000 + x) % f : Nat) : Int) := by rw [Int.natCast_emod]; congr 1
          have hq1 : ((r0 : Int) * 1000000000 + (x : Int)) / (f : Int) ≤ 999999999 := by rw [eq1]; omega
          have hq2 : 0 ≤ ((r0 : Int) * 1000000000 + (x : Int)) / (f : Int) := by rw [eq1]; exact Int.natCast_nonneg _
          have hm2 : 0 ≤ ((r0 : Int) * 1000000000 + (x : Int)) % (f : Int) := by rw [eq2]; exact Int.natCast_nonneg _
          have EQ1 := Lib.hid eq1
          have EQ2 := Lib.hid eq2
          clear eq1 eq2
          have hc60 := HX.cell 6 0 rfl rfl
          simp only [] at hc60
          go_wp2
          go_roundw
          case rel => exact ⟨j, _, _, by omega, hnx, by rw [EQ2.out], by go_num, HX.far (p := ⟨gs, j, none⟩) (by simp; omega) (by intro k q hk; match k, hk with | 0, hk => (simp at hk; subst hk; simp; try omega) | 1, hk => (simp at hk; subst hk; simp; try omega) | 2, hk => (simp at hk; subst hk; simp; try omega) | 3, hk => (simp at hk; subst hk; simp; try omega) | 4, hk => (simp at hk; subst hk; simp; try omega) | 5, hk => (simp at hk; subst hk; simp; try omega) | 6, hk => (simp at hk; subst hk; simp; try omega) | k + 7, hk => simp at hk) _, LR.setCell (p := ⟨gs, j, none⟩) hAS _, hown.far (p := ⟨gs, j, none⟩) (show gs ≠ gq by omega) _, Own.stored hown2 EQ1.out⟩
          case measure => simp [intOf]
        · obtain rfl : k = 0 := by omega
          have hv := hS2.eq
          rw [List.drop_zero, List.drop_zero, val_dig] at hv
          have hov : val o = a % b := by rw [← HRV.out, hv, Nat.mul_comm, Nat.mul_add_div hf0, Nat.div_eq_of_lt hr0, Nat.add_zero]
          have HOV := Lib.hid hov
          have HOL := Lib.hid hS2.len.symm
          have hdq := small_of_dig hS.dg
          have hdo := small_of_dig hS2.dg
          have hown3 : Own wr gq 97 (some ⟨gq, 0, none⟩) qo.length (dig X).length (ints .u32 qo) := by rw [hS.len]; exact hown
          have hown4 : Own wr gs 97 (some ⟨gs, 0, none⟩) o.length (dig R).length (ints .u32 o) := by rw [hS2.len]; exact hown2
          have HLq := Own.lim hown3 hdq
          have HLo := Own.lim hown4 hdo
          clear hv hov hown3 hown4 hown hown2 LR
          go_wp2_with fail
          refine (rnorm_any _ _ _ qo _ HLq HQL.out (by omega)).mono ?_
          rintro e W30 ⟨Aq, cq, rfl, LQ, hb⟩
          rw [HQV.out] at LQ
          rw [HQV.out]
          replace HX := HX.ext hb
          replace HLo := HLo.ext hb
          clear hb
          go_wp2_with fail
          refine (rnorm_any _ _ _ o _ HLo HOL.out (by omega)).mono ?_
          rintro e W31 ⟨Ao, co, rfl, LO, hb⟩
          rw [HOV.out] at LO
          rw [HOV.out]
          replace HX := HX.ext hb
          replace LQ := LQ.ext hb
          clear hb
          have hc20 := HX.cell 2 0 rfl rfl
          have hf20 := HX.free 2 0 rfl
          have hc30 := HX.cell 3 0 rfl rfl
          have hf30 := HX.free 3 0 rfl
          simp only [] at hc20 hf20 hc30 hf30
          go_wp2
          clear hc20 hf20 hc30 hf30
          have hk := HX.keep1 2 rfl rfl (.slice Aq (dig (a / b)).length cq)
          replace HX := HX.put1 2 rfl (by omega) (by intro k q hk hne; match k, hk with | 0, hk => (simp at hk; subst hk; simp at hne ⊢; try omega) | 1, hk => (simp at hk; subst hk; simp at hne ⊢; try omega) | 2, hk => (simp at hk; subst hk; simp at hne ⊢; try omega) | 3, hk => (simp at hk; subst hk; simp at hne ⊢; try omega) | 4, hk => (simp at hk; subst hk; simp at hne ⊢; try omega) | 5, hk => (simp at hk; subst hk; simp at hne ⊢; try omega) | 6, hk => (simp at hk; subst hk; simp at hne ⊢; try omega) | k + 7, hk => simp at hk) (.slice Aq (dig (a / b)).length cq)
          replace LQ := LQ.stay hk
          replace LO := LO.stay hk
          clear hk
          simp only [List.set_cons_zero, List.set_cons_succ] at HX
          have hk := HX.keep1 3 rfl rfl (.slice Ao (dig (a % b)).length co)
          replace HX := HX.put1 3 rfl (by omega) (by intro k q hk hne; match k, hk with | 0, hk => (simp at hk; subst hk; simp at hne ⊢; try omega) | 1, hk => (simp at hk; subst hk; simp at hne ⊢; try omega) | 2, hk => (simp at hk; subst hk; simp at hne ⊢; try omega) | 3, hk => (simp at hk; subst hk; simp at hne ⊢; try omega) | 4, hk => (simp at hk; subst hk; simp at hne ⊢; try omega) | 5, hk => (simp at hk; subst hk; simp at hne ⊢; try omega) | 6, hk => (simp at hk; subst hk; simp at hne ⊢; try omega) | k + 7, hk => simp at hk) (.slice Ao (dig (a % b)).length co)
          replace LQ := LQ.stay hk
          replace LO := LO.stay hk
          clear hk
          simp only [List.set_cons_zero, List.set_cons_succ] at HX
          have hc20 := HX.cell 2 0 rfl rfl
          have hc30 := HX.cell 3 0 rfl rfl
          simp only [] at hc20 hc30
          exact bodyPost_ret (v := .tuple #[.agg #[.slice Aq (dig (a / b)).length cq], .agg #[.slice Ao (dig (a % b)).length co], .int .i64 0]) (by simp [results, Tryz.results118, go_sem, hc20, hc30]) rfl ⟨Aq, cq, Ao, co, rfl, LQ, LO, HX.below⟩

end Go.Proofs.YthempimelfmipaaGreatDoor
