/- The reference's parser of hoards: its walk. -/
import Derived.Test.YteleohgalknkiaaGreatDoorHP4bM
import Derived.Test.YteleohgalknkiaaGreatDoorHP6bM
namespace Go.Proofs.YteleohgalknkiaaGreatDoor
open Go.RowKit Go.Proofs Go

theorem EOwn.lt {w : World} {B c : Nat} {A : Option Addr} {l : List (Int × Int)} (h : EOwn w B A c l) : ∀ a, A = some a → a.block < w.heap.size := fun a ha => (World.ownsRow.lt h a.block (by rw [ha]; rfl)).2
theorem EOwn.off {w : World} {B c : Nat} {A : Option Addr} {l : List (Int × Int)} (h : EOwn w B A c l) {p : Addr} (hp : ∀ a, A = some a → a.block < p.block) (v : Value) : EOwn (w.setCell p v) B A c l := by
  refine World.ownsRow.kept h (row := some p.block) ⟨rfl, rfl, rfl, by simp [World.setCell], fun i _ hne => Below.heap_setCell w p v i fun e => hne (by rw [e])⟩ ?_
  cases A with
  | none => left; rfl
  | some a =>
    right
    intro e
    injection e with e
    have := hp a rfl
    omega
def REnd (S : List UInt8) (n : Int) (out : List (Int × Int)) (R : List UInt8) : Prop := ∀ id l0 f t, HV id l0 f t → hoardText id l0 f t = S → n = id ∧ out = l0 ∧ R = 59 :: 32 :: yearText f t
theorem rend_short {S R : List UInt8} {n : Int} {out : List (Int × Int)} (h : REnd S n out R) (hR : R.length < 2) : NoH S := fun id l0 f t hv he => by
  obtain ⟨_, _, h3⟩ := h id l0 f t hv he
  rw [h3] at hR
  simp at hR
  omega
theorem rend_years {S R : List UInt8} {n : Int} {out : List (Int × Int)} (h : REnd S n out R) (hbad : ∀ f t, YV f t → yearText f t ≠ R.drop 2) : NoH S := fun id l0 f t hv he => by
  obtain ⟨_, _, h3⟩ := h id l0 f t hv he
  exact hbad f t hv.2.2.2 (by rw [h3]; rfl)
theorem rend_bad {S R : List UInt8} {n fy ty : Int} {out : List (Int × Int)} (h : REnd S n out R) (hy : YV fy ty ∧ yearText fy ty = R.drop 2) (hn : ¬ (HV n out fy ty ∧ hoardText n out fy ty = S)) : NoH S := fun id l0 f t hv he => by
  obtain ⟨rfl, rfl, h3⟩ := h id l0 f t hv he
  obtain ⟨rfl, rfl⟩ := yearText_inj hy.1 hv.2.2.2 (by rw [hy.2, h3]; rfl)
  exact hn ⟨hv, he⟩
set_option maxHeartbeats 4000000 in
set_option maxRecDepth 100000 in
theorem rhp_a {S R0 S1 : List UInt8} {n : Nat} {id f t E : Int} {l : List (Int × Int)} (w : World) (hl : S.length ≤ 100000) (hS2 : 2 ≤ S.length) (hP : Hid (PH S id l f t E)) (hsS : (str S).size = S.length) (hxS : (str S).extract 1 S.length = str S1) (hlS : S1.length ≤ 100000)
    (HN : Hid (numK 3 S1 0 = (n, R0))) (_hn : n < 1000) (hl0 : R0.length ≤ 100000) (hs0 : (str R0).size = R0.length) (HI0 : Hid (RInv S n [] (R0.drop 1))) (h00 : 0 < R0.length) (hx00 : (str R0).extract 1 R0.length = str (R0.drop 1)) :
    Calls Tryz.prog 28 #[.string (str S)] w (RetM w id l f t E) := by
  go_enter Tryz.func28, Tryz.ntmps28
  go_upto_region 4 with fail
  have HX := BL.two w #[.int .i64 0, .slice none 0 0, .int .i64 0, .int .i64 0] #[.int .i64 0, .slice none 0 0, .int .i64 0, .int .i64 0] 26 26
  generalize (w.alloc (.cells #[.int .i64 0, .slice none 0 0, .int .i64 0, .int .i64 0] 26)).alloc (.cells #[.int .i64 0, .slice none 0 0, .int .i64 0, .int .i64 0] 26) = W1 at *
  go_wp2_with fail
  refine (rnum32_any _ HN (by omega)).mono ?_
  rintro e w2 ⟨rfl, hb⟩
  replace HX := HX.ext hb
  clear hb
  have hc10 := HX.cell 1 0 rfl rfl
  have hf10 := HX.free 1 0 rfl
  try simp only [List.getElem_toArray, List.getElem_cons_zero] at hc10 hf10
  go_upto_region 6 with fail
  clear hc10 hf10
  replace HX := HX.set1 1 rfl (by omega) (by intro k q hk hne; match k, hk with | 0, hk => (simp at hk; subst hk; simp at hne ⊢; try omega) | 1, hk => (simp at hk; subst hk; simp at hne ⊢; try omega) | k + 2, hk => simp at hk) 0 (.int .i64 (n : Int))
  simp only [List.set_cons_zero, List.set_cons_succ, List.setIfInBounds_toArray] at HX
  generalize w2.setCell ⟨w.heap.size + 1, 0, none⟩ (.int .i64 (n : Int)) = W2 at *
  have hltB := HX.lt 1 rfl
  simp only [] at hltB
  obtain ⟨B, hB⟩ : ∃ B, W2.heap.size = B := ⟨_, rfl⟩
  have hBw : w.heap.size ≤ B := by omega
  have hgB1 : w.heap.size + 1 < B := by omega
  have hBr : B ≤ W2.heap.size := by omega
  clear hB hltB
  have HOWN := EOwn.nil W2 B
  go_wp2_with fail
  go_loopg [6] 40 (fun kk x wr => ∃ (A8 : Option Addr) (c8 : Nat) (out : List (Int × Int)) (R : List UInt8), Hid (out.length + kk = 40) ∧ x = .string (str R) ∧ R.length ≤ 100000 ∧ Hid (RInv S n out R) ∧ EOwn wr B A8 c8 out ∧ BL w wr [(w.heap.size, #[.int .i64 0, .slice none 0 0, .int .i64 0, .int .i64 0], 26), (w.heap.size + 1, #[.int .i64 (n : Int), .slice A8 out.length c8, .int .i64 0, .int .i64 0], 26)] ∧ B ≤ wr.heap.size)
  case atStart => exact ⟨none, 0, [], R0.drop 1, Lib.hid rfl, by simp, by rw [List.length_drop]; omega, Lib.hid (HI0.out), HOWN, HX, hBr⟩
  case round =>
    clear HX HOWN hBr HI0
    obtain ⟨A8, c8, out, R, HLEN, rfl, hlR, HI, HOWN, HX, hBr⟩ := hrel
    have hsR : (str R).size = R.length := str_size R
    have hc11 := HX.cell 1 1 rfl rfl
    try simp only [List.getElem_toArray, List.getElem_cons_zero, List.getElem_cons_succ] at hc11
    have hol : out.length ≤ 40 := by have := HLEN.out; omega
    by_cases hR0 : 0 < R.length
    · obtain ⟨x0, R1, hR1⟩ : ∃ x r, R = x :: r := by cases R with | nil => simp at hR0 | cons x r => exact ⟨x, r, rfl⟩
      have hi0 : ∀ h, (str R)[0]'h = x0 := by rw [hR1]; exact fun _ => rfl
      have hxr : (str R).extract 1 R.length = str R1 := by have := str_drop R 1; rw [this, hR1]; rfl
      have hl1 : R1.length ≤ 100000 := by rw [hR1] at hlR; simp at hlR; omega
      by_cases hx : x0 = 32
      · by_cases h40 : out.length < 40
        · have HI32 : Hid (RInv S n out (32 :: R1)) := Lib.hid (by have := HI.out; rwa [hR1, hx] at this)
          subst hx
          clear hR1
          have hidx : ∀ h, (str R)[0]'h = 32 := hi0
          have hx1 : (str R).extract 1 R.length = str R1 := hxr
          have HLEN2 : out.length ≤ 39 := by omega
          obtain ⟨k, R2, hk2⟩ : ∃ k R, numK 3 R1 0 = (k, R) := ⟨_, _, rfl⟩
          have hl2 : R2.length ≤ 100000 := by have := numK_len 3 R1 0; rw [hk2] at this; simp at this; omega
          have hkb : k < 1000 := by have := numK_lt 3 R1 0; rw [hk2] at this; simpa using this
          have hs2 : (str R2).size = R2.length := str_size R2
          have HK := Lib.hid hk2
          clear hk2
          go_upto_region 10 with fail
          clear hc11
          have hg7 := HX.lt 1 rfl
          simp only [] at hg7
          have HLT := Lib.hid HOWN.lt
          replace HOWN := HOWN.alloc (.cells #[.int .i64 0, .int .i64 0] 77)
          replace HX := HX.new #[.int .i64 0, .int .i64 0] 77
          simp only [List.cons_append, List.nil_append] at HX
          have hgB : B ≤ wr.heap.size := hBr
          replace hBr : B ≤ (wr.alloc (.cells #[.int .i64 0, .int .i64 0] 77)).heap.size := by simp; omega
          generalize wr.alloc (.cells #[.int .i64 0, .int .i64 0] 77) = W7 at *
          generalize wr.heap.size = g7 at *
          have hc20 := HX.cell 2 0 rfl rfl
          have hc21 := HX.cell 2 1 rfl rfl
          try simp only [List.getElem_toArray, List.getElem_cons_zero, List.getElem_cons_succ] at hc20 hc21
          have hf20 := HX.free 2 0 rfl
          have hf21 := HX.free 2 1 rfl
          try simp only [] at hf20 hf21
          go_wp2_with fail
          refine (rnum32_any _ HK (by omega)).mono ?_
          rintro e w4 ⟨rfl, hb⟩
          clear hc20 hf20 hc21 hf21
          replace HX := HX.ext hb
          replace HOWN := HOWN.ext hb
          replace hBr := Nat.le_trans hBr hb.size
          clear hb
          have hc20 := HX.cell 2 0 rfl rfl
          have hc21 := HX.cell 2 1 rfl rfl
          try simp only [List.getElem_toArray, List.getElem_cons_zero, List.getElem_cons_succ] at hc20 hc21
          have hf20 := HX.free 2 0 rfl
          have hf21 := HX.free 2 1 rfl
          try simp only [] at hf20 hf21
          go_upto_region 11 with fail
          clear hc20 hf20 hc21 hf21
          replace HX := HX.set1 2 rfl (by omega) (by intro k q hk hne; match k, hk with | 0, hk => (simp at hk; subst hk; simp at hne ⊢; try omega) | 1, hk => (simp at hk; subst hk; simp at hne ⊢; try omega) | 2, hk => (simp at hk; subst hk; simp at hne ⊢; try omega) | k + 3, hk => simp at hk) 0 (.int .i64 (k : Int))
          simp only [List.set_cons_zero, List.set_cons_succ, List.setIfInBounds_toArray] at HX
          replace HOWN := HOWN.off (p := ⟨g7, 0, none⟩) HLT.out (.int .i64 (k : Int))
          replace hBr : B ≤ (w4.setCell ⟨g7, 0, none⟩ (.int .i64 (k : Int))).heap.size := by simpa [World.setCell] using hBr
          generalize w4.setCell ⟨g7, 0, none⟩ (.int .i64 (k : Int)) = w41 at *
          by_cases h20 : 0 < R2.length
          · have hx2 : (str R2).extract 1 R2.length = str (R2.drop 1) := str_drop R2 1
            obtain ⟨v, R4, hv4⟩ : ∃ v R, numK 3 (R2.drop 1) 0 = (v, R) := ⟨_, _, rfl⟩
            have hl4 : R4.length ≤ 100000 := by have := numK_len 3 (R2.drop 1) 0; rw [hv4] at this; rw [List.length_drop] at this; simp at this; omega
            have hvb : v < 1000 := by have := numK_lt 3 (R2.drop 1) 0; rw [hv4] at this; simpa using this
            have HI2 : Hid (RInv S n (out ++ [((k : Int), (v : Int))]) R4) := Lib.hid (rinv_step HI32.out HK.out hv4)
            have HV4 := Lib.hid hv4
            clear hv4
            have hl3 : (R2.drop 1).length ≤ 1000000 := by rw [List.length_drop]; omega
            generalize R2.drop 1 = R3 at *
            have hc20 := HX.cell 2 0 rfl rfl
            have hc21 := HX.cell 2 1 rfl rfl
            try simp only [List.getElem_toArray, List.getElem_cons_zero, List.getElem_cons_succ] at hc20 hc21
            have hf20 := HX.free 2 0 rfl
            have hf21 := HX.free 2 1 rfl
            try simp only [] at hf20 hf21
            have hc10 := HX.cell 1 0 rfl rfl
            have hc11 := HX.cell 1 1 rfl rfl
            have hc12 := HX.cell 1 2 rfl rfl
            have hc13 := HX.cell 1 3 rfl rfl
            try simp only [List.getElem_toArray, List.getElem_cons_zero, List.getElem_cons_succ] at hc10 hc11 hc12 hc13
            go_wp2_with fail
            refine (rnum32_any _ HV4 (by omega)).mono ?_
            rintro e w5 ⟨rfl, hb⟩
            clear hc20 hf20 hc21 hf21
            clear hc10 hc11 hc12 hc13
            replace HX := HX.ext hb
            replace HOWN := HOWN.ext hb
            replace hBr := Nat.le_trans hBr hb.size
            clear hb
            have hc20 := HX.cell 2 0 rfl rfl
            have hc21 := HX.cell 2 1 rfl rfl
            try simp only [List.getElem_toArray, List.getElem_cons_zero, List.getElem_cons_succ] at hc20 hc21
            have hf20 := HX.free 2 0 rfl
            have hf21 := HX.free 2 1 rfl
            try simp only [] at hf20 hf21
            have hc10 := HX.cell 1 0 rfl rfl
            have hc11 := HX.cell 1 1 rfl rfl
            have hc12 := HX.cell 1 2 rfl rfl
            have hc13 := HX.cell 1 3 rfl rfl
            try simp only [List.getElem_toArray, List.getElem_cons_zero, List.getElem_cons_succ] at hc10 hc11 hc12 hc13
            go_upto_region 14 with fail
            clear hc20 hf20 hc21 hf21
            clear hc10 hc11 hc12 hc13
            replace HX := HX.set1 2 rfl (by omega) (by intro k q hk hne; match k, hk with | 0, hk => (simp at hk; subst hk; simp at hne ⊢; try omega) | 1, hk => (simp at hk; subst hk; simp at hne ⊢; try omega) | 2, hk => (simp at hk; subst hk; simp at hne ⊢; try omega) | k + 3, hk => simp at hk) 1 (.int .i64 (v : Int))
            simp only [List.set_cons_zero, List.set_cons_succ, List.setIfInBounds_toArray] at HX
            replace HOWN := HOWN.off (p := ⟨g7, 1, none⟩) HLT.out (.int .i64 (v : Int))
            replace hBr : B ≤ (w5.setCell ⟨g7, 1, none⟩ (.int .i64 (v : Int))).heap.size := by simpa [World.setCell] using hBr
            generalize w5.setCell ⟨g7, 1, none⟩ (.int .i64 (v : Int)) = w6 at *
            have hc20 := HX.cell 2 0 rfl rfl
            have hc21 := HX.cell 2 1 rfl rfl
            try simp only [List.getElem_toArray, List.getElem_cons_zero, List.getElem_cons_succ] at hc20 hc21
            have hc10 := HX.cell 1 0 rfl rfl
            have hc11 := HX.cell 1 1 rfl rfl
            have hc12 := HX.cell 1 2 rfl rfl
            have hc13 := HX.cell 1 3 rfl rfl
            try simp only [List.getElem_toArray, List.getElem_cons_zero, List.getElem_cons_succ] at hc10 hc11 hc12 hc13
            go_wp2_with (at_builtin; refine wp_epush _ rfl _ _ rfl rfl rfl HOWN (by omega) hBr ?_)
            intro A9 c9 w7 HOWN2 hb7 hlt7
            replace HX := (BL.init (l := [(w.heap.size, #[.int .i64 0, .slice none 0 0, .int .i64 0, .int .i64 0], 26), (w.heap.size + 1, #[.int .i64 (n : Int), .slice A8 out.length c8, .int .i64 0, .int .i64 0], 26)]) HX).low hBw (by intro i q hq; match i, hq with | 0, hq => (simp at hq; subst hq; simp; try omega) | 1, hq => (simp at hq; subst hq; simp; try omega) | i + 2, hq => simp at hq) hb7
            clear hc20 hc21
            clear hc10 hc11 hc12 hc13
            clear HOWN hb7
            have hB7 : B ≤ w7.heap.size := by omega
            clear hlt7 hBr
            have hc11 := HX.cell 1 1 rfl rfl
            have hf11 := HX.free 1 1 rfl
            try simp only [List.getElem_toArray, List.getElem_cons_zero, List.getElem_cons_succ] at hc11 hf11
            have HI2b := HI2
            clear HI32 HK HI HV4 HLT
            go_wp2
            clear hc11 hf11
            replace HX := HX.set1 1 rfl (by omega) (by intro k q hk hne; match k, hk with | 0, hk => (simp at hk; subst hk; simp at hne ⊢; try omega) | 1, hk => (simp at hk; subst hk; simp at hne ⊢; try omega) | k + 2, hk => simp at hk) 1 (.slice A9 (out.length + 1) c9)
            simp only [List.set_cons_zero, List.set_cons_succ, List.setIfInBounds_toArray] at HX
            replace HOWN2 := HOWN2.far (p := ⟨w.heap.size + 1, 1, none⟩) (by show w.heap.size + 1 < B; omega) (.slice A9 (out.length + 1) c9)
            have hB8 : B ≤ (w7.setCell ⟨w.heap.size + 1, 1, none⟩ (.slice A9 (out.length + 1) c9)).heap.size := by simpa [World.setCell] using hB7
            go_roundg (40 - (out.length + 1))
            case measure => have := HLEN.out; omega
            case rel => exact ⟨A9, c9, out ++ [((k : Int), (v : Int))], R4, Lib.hid (by have := HLEN.out; simp; omega), rfl, hl4, HI2b, HOWN2, by rw [List.length_append]; exact HX, hB8⟩
          · have hR3 : R2.drop 1 = R2 := by rw [List.eq_nil_of_length_eq_zero (show R2.length = 0 by omega)]; rfl
            obtain ⟨v, R4, hv4⟩ : ∃ v R, numK 3 (R2.drop 1) 0 = (v, R) := ⟨_, _, rfl⟩
            have hl4 : R4.length ≤ 100000 := by have := numK_len 3 (R2.drop 1) 0; rw [hv4] at this; rw [List.length_drop] at this; simp at this; omega
            have hvb : v < 1000 := by have := numK_lt 3 (R2.drop 1) 0; rw [hv4] at this; simpa using this
            have HI2 : Hid (RInv S n (out ++ [((k : Int), (v : Int))]) R4) := Lib.hid (rinv_step HI32.out HK.out hv4)
            rw [hR3] at hv4
            have HV4 := Lib.hid hv4
            clear hv4
            clear hR3
            have hc20 := HX.cell 2 0 rfl rfl
            have hc21 := HX.cell 2 1 rfl rfl
            try simp only [List.getElem_toArray, List.getElem_cons_zero, List.getElem_cons_succ] at hc20 hc21
            have hf20 := HX.free 2 0 rfl
            have hf21 := HX.free 2 1 rfl
            try simp only [] at hf20 hf21
            have hc10 := HX.cell 1 0 rfl rfl
            have hc11 := HX.cell 1 1 rfl rfl
            have hc12 := HX.cell 1 2 rfl rfl
            have hc13 := HX.cell 1 3 rfl rfl
            try simp only [List.getElem_toArray, List.getElem_cons_zero, List.getElem_cons_succ] at hc10 hc11 hc12 hc13
            go_wp2_with fail
            refine (rnum32_any _ HV4 (by omega)).mono ?_
            rintro e w5 ⟨rfl, hb⟩
            clear hc20 hf20 hc21 hf21
            clear hc10 hc11 hc12 hc13
            replace HX := HX.ext hb
            replace HOWN := HOWN.ext hb
            replace hBr := Nat.le_trans hBr hb.size
            clear hb
            have hc20 := HX.cell 2 0 rfl rfl
            have hc21 := HX.cell 2 1 rfl rfl
            try simp only [List.getElem_toArray, List.getElem_cons_zero, List.getElem_cons_succ] at hc20 hc21
            have hf20 := HX.free 2 0 rfl
            have hf21 := HX.free 2 1 rfl
            try simp only [] at hf20 hf21
            have hc10 := HX.cell 1 0 rfl rfl
            have hc11 := HX.cell 1 1 rfl rfl
            have hc12 := HX.cell 1 2 rfl rfl
            have hc13 := HX.cell 1 3 rfl rfl
            try simp only [List.getElem_toArray, List.getElem_cons_zero, List.getElem_cons_succ] at hc10 hc11 hc12 hc13
            go_upto_region 14 with fail
            clear hc20 hf20 hc21 hf21
            clear hc10 hc11 hc12 hc13
            replace HX := HX.set1 2 rfl (by omega) (by intro k q hk hne; match k, hk with | 0, hk => (simp at hk; subst hk; simp at hne ⊢; try omega) | 1, hk => (simp at hk; subst hk; simp at hne ⊢; try omega) | 2, hk => (simp at hk; subst hk; simp at hne ⊢; try omega) | k + 3, hk => simp at hk) 1 (.int .i64 (v : Int))
            simp only [List.set_cons_zero, List.set_cons_succ, List.setIfInBounds_toArray] at HX
            replace HOWN := HOWN.off (p := ⟨g7, 1, none⟩) HLT.out (.int .i64 (v : Int))
            replace hBr : B ≤ (w5.setCell ⟨g7, 1, none⟩ (.int .i64 (v : Int))).heap.size := by simpa [World.setCell] using hBr
            generalize w5.setCell ⟨g7, 1, none⟩ (.int .i64 (v : Int)) = w6 at *
            have hc20 := HX.cell 2 0 rfl rfl
            have hc21 := HX.cell 2 1 rfl rfl
            try simp only [List.getElem_toArray, List.getElem_cons_zero, List.getElem_cons_succ] at hc20 hc21
            have hc10 := HX.cell 1 0 rfl rfl
            have hc11 := HX.cell 1 1 rfl rfl
            have hc12 := HX.cell 1 2 rfl rfl
            have hc13 := HX.cell 1 3 rfl rfl
            try simp only [List.getElem_toArray, List.getElem_cons_zero, List.getElem_cons_succ] at hc10 hc11 hc12 hc13
            go_wp2_with (at_builtin; refine wp_epush _ rfl _ _ rfl rfl rfl HOWN (by omega) hBr ?_)
            intro A9 c9 w7 HOWN2 hb7 hlt7
            replace HX := (BL.init (l := [(w.heap.size, #[.int .i64 0, .slice none 0 0, .int .i64 0, .int .i64 0], 26), (w.heap.size + 1, #[.int .i64 (n : Int), .slice A8 out.length c8, .int .i64 0, .int .i64 0], 26)]) HX).low hBw (by intro i q hq; match i, hq with | 0, hq => (simp at hq; subst hq; simp; try omega) | 1, hq => (simp at hq; subst hq; simp; try omega) | i + 2, hq => simp at hq) hb7
            clear hc20 hc21
            clear hc10 hc11 hc12 hc13
            clear HOWN hb7
            have hB7 : B ≤ w7.heap.size := by omega
            clear hlt7 hBr
            have hc11 := HX.cell 1 1 rfl rfl
            have hf11 := HX.free 1 1 rfl
            try simp only [List.getElem_toArray, List.getElem_cons_zero, List.getElem_cons_succ] at hc11 hf11
            have HI2b := HI2
            clear HI32 HK HI HV4 HLT
            go_wp2
            clear hc11 hf11
            replace HX := HX.set1 1 rfl (by omega) (by intro k q hk hne; match k, hk with | 0, hk => (simp at hk; subst hk; simp at hne ⊢; try omega) | 1, hk => (simp at hk; subst hk; simp at hne ⊢; try omega) | k + 2, hk => simp at hk) 1 (.slice A9 (out.length + 1) c9)
            simp only [List.set_cons_zero, List.set_cons_succ, List.setIfInBounds_toArray] at HX
            replace HOWN2 := HOWN2.far (p := ⟨w.heap.size + 1, 1, none⟩) (by show w.heap.size + 1 < B; omega) (.slice A9 (out.length + 1) c9)
            have hB8 : B ≤ (w7.setCell ⟨w.heap.size + 1, 1, none⟩ (.slice A9 (out.length + 1) c9)).heap.size := by simpa [World.setCell] using hB7
            go_roundg (40 - (out.length + 1))
            case measure => have := HLEN.out; omega
            case rel => exact ⟨A9, c9, out ++ [((k : Int), (v : Int))], R4, Lib.hid (by have := HLEN.out; simp; omega), rfl, hl4, HI2b, HOWN2, by rw [List.length_append]; exact HX, hB8⟩
        · have HEND : Hid (REnd S n out R) := Lib.hid fun id l0 f t hv he => rinv_end HI.out (.inr (by omega)) hv he
          subst hx
          clear hR1 hxr HI
          go_upto_region 15 with fail
          clear hc11
          by_cases hR2 : R.length < 2
          · obtain ⟨rfl, rfl, rfl, rfl, rfl⟩ := hP.out.bad (rend_short HEND.out hR2)
            clear HEND
            have hc00 := HX.cell 0 0 rfl rfl
            have hc01 := HX.cell 0 1 rfl rfl
            have hc02 := HX.cell 0 2 rfl rfl
            have hc03 := HX.cell 0 3 rfl rfl
            try simp only [List.getElem_toArray, List.getElem_cons_zero, List.getElem_cons_succ] at hc00 hc01 hc02 hc03
            have hf00 := HX.free 0 0 rfl
            have hf01 := HX.free 0 1 rfl
            have hf02 := HX.free 0 2 rfl
            have hf03 := HX.free 0 3 rfl
            try simp only [] at hf00 hf01 hf02 hf03
            go_wp2
            clear hc00 hf00 hc01 hf01 hc02 hf02 hc03 hf03
            replace HX := HX.put4 0 rfl (by omega) (by intro k q hk hne; match k, hk with | 0, hk => (simp at hk; subst hk; simp at hne ⊢; try omega) | 1, hk => (simp at hk; subst hk; simp at hne ⊢; try omega) | k + 2, hk => simp at hk) (.int .i64 0) (.slice none 0 0) (.int .i64 0) (.int .i64 0)
            simp only [List.set_cons_zero] at HX
            have hc00 := HX.cell 0 0 rfl rfl
            have hc01 := HX.cell 0 1 rfl rfl
            have hc02 := HX.cell 0 2 rfl rfl
            have hc03 := HX.cell 0 3 rfl rfl
            try simp only [List.getElem_toArray, List.getElem_cons_zero, List.getElem_cons_succ] at hc00 hc01 hc02 hc03
            exact bodyPost_ret (v := .tuple #[.agg #[.int .i64 0, .slice none 0 0, .int .i64 0, .int .i64 0], .int .i64 3]) (by simp [results, Tryz.results28, go_sem, hc00, hc01, hc02, hc03]) rfl ⟨_, _, rfl, Es.nil _ _, HX.below⟩
          · have hxd : (str R).extract 2 R.length = str (R.drop 2) := str_drop R 2
            have hld : (R.drop 2).length ≤ 1000000 := by rw [List.length_drop]; omega
            obtain ⟨fy, ty, Ey, hy⟩ := PY.ex (R.drop 2)
            have HPY := Lib.hid hy
            generalize hRd : R.drop 2 = R5 at *
            go_wp2_with fail
            refine (ryparse_any _ hld HPY).mono ?_
            rintro e w5 ⟨rfl, hb⟩
            replace HX := HX.ext hb
            replace HOWN := HOWN.ext hb
            replace hBr := Nat.le_trans hBr hb.size
            clear hb
            go_upto_region 18 with fail
            have hlt2 := HX.lt 1 rfl
            simp only [] at hlt2
            replace HOWN := HOWN.ext (below_alloc w5 (.cells #[.int .i64 fy, .int .i64 ty] 24))
            replace HX := HX.new #[.int .i64 fy, .int .i64 ty] 24
            simp only [List.cons_append, List.nil_append] at HX
            have hgB : B ≤ w5.heap.size := hBr
            clear hBr
            generalize w5.alloc (.cells #[.int .i64 fy, .int .i64 ty] 24) = W5 at *
            generalize w5.heap.size = g5 at *
            rcases hy with ⟨rfl, hyv, hyt⟩ | ⟨rfl, rfl, rfl, hbad⟩
            · have HYY : Hid (YV fy ty ∧ yearText fy ty = R.drop 2) := Lib.hid ⟨hyv, hyt.trans hRd.symm⟩
              clear hyv hyt HPY hRd
              have hc20 := HX.cell 2 0 rfl rfl
              have hc21 := HX.cell 2 1 rfl rfl
              try simp only [List.getElem_toArray, List.getElem_cons_zero, List.getElem_cons_succ] at hc20 hc21
              have hc12 := HX.cell 1 2 rfl rfl
              have hc13 := HX.cell 1 3 rfl rfl
              try simp only [List.getElem_toArray, List.getElem_cons_zero, List.getElem_cons_succ] at hc12 hc13
              have hf12 := HX.free 1 2 rfl
              have hf13 := HX.free 1 3 rfl
              try simp only [] at hf12 hf13
              go_upto_region 21 with fail
              clear hc20 hc21
              clear hc12 hf12 hc13 hf13
              replace HX := HX.set1 1 rfl (by omega) (by intro k q hk hne; match k, hk with | 0, hk => (simp at hk; subst hk; simp at hne ⊢; try omega) | 1, hk => (simp at hk; subst hk; simp at hne ⊢; try omega) | 2, hk => (simp at hk; subst hk; simp at hne ⊢; try omega) | k + 3, hk => simp at hk) 2 (.int .i64 fy)
              simp only [List.set_cons_zero, List.set_cons_succ, List.setIfInBounds_toArray] at HX
              replace HX := HX.set1 1 rfl (by omega) (by intro k q hk hne; match k, hk with | 0, hk => (simp at hk; subst hk; simp at hne ⊢; try omega) | 1, hk => (simp at hk; subst hk; simp at hne ⊢; try omega) | 2, hk => (simp at hk; subst hk; simp at hne ⊢; try omega) | k + 3, hk => simp at hk) 3 (.int .i64 ty)
              simp only [List.set_cons_zero, List.set_cons_succ, List.setIfInBounds_toArray] at HX
              replace HOWN := HOWN.far (p := ⟨w.heap.size + 1, 2, none⟩) (by show w.heap.size + 1 < B; omega) (.int .i64 fy)
              replace HOWN := HOWN.far (p := ⟨w.heap.size + 1, 3, none⟩) (by show w.heap.size + 1 < B; omega) (.int .i64 ty)
              generalize (W5.setCell ⟨w.heap.size + 1, 2, none⟩ (.int .i64 fy)).setCell ⟨w.heap.size + 1, 3, none⟩ (.int .i64 ty) = W6 at *
              obtain ⟨T, hT⟩ := PHT.ex n out fy ty
              have hc10 := HX.cell 1 0 rfl rfl
              have hc11 := HX.cell 1 1 rfl rfl
              have hc12 := HX.cell 1 2 rfl rfl
              have hc13 := HX.cell 1 3 rfl rfl
              try simp only [List.getElem_toArray, List.getElem_cons_zero, List.getElem_cons_succ] at hc10 hc11 hc12 hc13
              by_cases hv : HV n out fy ty
              · have HV1 := yes hv
                go_wp2_with fail
                refine (bhoard_any (b := true) A8 c8 out _ HOWN.es (by omega) HV1).mono ?_
                rintro e w6 ⟨rfl, hb⟩
                clear hc10 hc11 hc12 hc13
                replace HX := HX.ext hb
                replace HOWN := HOWN.ext hb
                clear hb
                have hc10 := HX.cell 1 0 rfl rfl
                have hc11 := HX.cell 1 1 rfl rfl
                have hc12 := HX.cell 1 2 rfl rfl
                have hc13 := HX.cell 1 3 rfl rfl
                try simp only [List.getElem_toArray, List.getElem_cons_zero, List.getElem_cons_succ] at hc10 hc11 hc12 hc13
                go_wp2_with fail
                refine (rtext32_any A8 c8 out _ HOWN.es (by omega) hT).mono ?_
                rintro e w7 ⟨rfl, hb⟩
                clear hc10 hc11 hc12 hc13
                replace HX := HX.ext hb
                replace HOWN := HOWN.ext hb
                clear hb
                have hc10 := HX.cell 1 0 rfl rfl
                have hc11 := HX.cell 1 1 rfl rfl
                have hc12 := HX.cell 1 2 rfl rfl
                have hc13 := HX.cell 1 3 rfl rfl
                try simp only [List.getElem_toArray, List.getElem_cons_zero, List.getElem_cons_succ] at hc10 hc11 hc12 hc13
                by_cases hTS : T = S
                · have hse : ((str T).toList == (str S).toList) = true := str_eq (beq_iff_eq.2 hTS)
                  rcases hT with ⟨_, hT⟩ | ⟨hnv, _⟩
                  · have hok := hP.out.ok hv (hT.trans hTS)
                    obtain ⟨rfl, rfl, rfl, rfl, rfl⟩ := hok
                    clear hv hT hTS hP HEND HYY
                    have hc00 := HX.cell 0 0 rfl rfl
                    have hc01 := HX.cell 0 1 rfl rfl
                    have hc02 := HX.cell 0 2 rfl rfl
                    have hc03 := HX.cell 0 3 rfl rfl
                    try simp only [List.getElem_toArray, List.getElem_cons_zero, List.getElem_cons_succ] at hc00 hc01 hc02 hc03
                    have hf00 := HX.free 0 0 rfl
                    have hf01 := HX.free 0 1 rfl
                    have hf02 := HX.free 0 2 rfl
                    have hf03 := HX.free 0 3 rfl
                    try simp only [] at hf00 hf01 hf02 hf03
                    go_wp2
                    clear hc00 hf00 hc01 hf01 hc02 hf02 hc03 hf03 hc10 hc11 hc12 hc13
                    replace HOWN := HOWN.far (p := ⟨w.heap.size, 0, none⟩) (by show w.heap.size < B; omega) (.int .i64 (n : Int))
                    replace HOWN := HOWN.far (p := ⟨w.heap.size, 1, none⟩) (by show w.heap.size < B; omega) (.slice A8 l.length c8)
                    replace HOWN := HOWN.far (p := ⟨w.heap.size, 2, none⟩) (by show w.heap.size < B; omega) (.int .i64 f)
                    replace HOWN := HOWN.far (p := ⟨w.heap.size, 3, none⟩) (by show w.heap.size < B; omega) (.int .i64 t)
                    replace HX := HX.put4 0 rfl (by omega) (by intro k q hk hne; match k, hk with | 0, hk => (simp at hk; subst hk; simp at hne ⊢; try omega) | 1, hk => (simp at hk; subst hk; simp at hne ⊢; try omega) | 2, hk => (simp at hk; subst hk; simp at hne ⊢; try omega) | k + 3, hk => simp at hk) (.int .i64 (n : Int)) (.slice A8 l.length c8) (.int .i64 f) (.int .i64 t)
                    simp only [List.set_cons_zero] at HX
                    have hc00 := HX.cell 0 0 rfl rfl
                    have hc01 := HX.cell 0 1 rfl rfl
                    have hc02 := HX.cell 0 2 rfl rfl
                    have hc03 := HX.cell 0 3 rfl rfl
                    try simp only [List.getElem_toArray, List.getElem_cons_zero, List.getElem_cons_succ] at hc00 hc01 hc02 hc03
                    exact bodyPost_ret (v := .tuple #[.agg #[.int .i64 (n : Int), .slice A8 l.length c8, .int .i64 f, .int .i64 t], .int .i64 0]) (by simp [results, Tryz.results28, go_sem, hc00, hc01, hc02, hc03]) rfl ⟨_, _, rfl, HOWN.es, HX.below⟩
                  · exact absurd hv hnv
                · have hse : ((str T).toList == (str S).toList) = false := str_eq (beq_eq_false_iff_ne.2 hTS)
                  have hno : ¬ (HV n out fy ty ∧ hoardText n out fy ty = S) := fun h => by
                    rcases hT with ⟨_, hT⟩ | ⟨hnv, _⟩
                    · exact hTS (hT.symm.trans h.2)
                    · exact hnv h.1
                  obtain ⟨rfl, rfl, rfl, rfl, rfl⟩ := hP.out.bad (rend_bad HEND.out HYY.out hno)
                  clear hT hTS hno hP HEND HYY hv
                  have hc00 := HX.cell 0 0 rfl rfl
                  have hc01 := HX.cell 0 1 rfl rfl
                  have hc02 := HX.cell 0 2 rfl rfl
                  have hc03 := HX.cell 0 3 rfl rfl
                  try simp only [List.getElem_toArray, List.getElem_cons_zero, List.getElem_cons_succ] at hc00 hc01 hc02 hc03
                  have hf00 := HX.free 0 0 rfl
                  have hf01 := HX.free 0 1 rfl
                  have hf02 := HX.free 0 2 rfl
                  have hf03 := HX.free 0 3 rfl
                  try simp only [] at hf00 hf01 hf02 hf03
                  go_wp2
                  clear hc00 hf00 hc01 hf01 hc02 hf02 hc03 hf03 hc10 hc11 hc12 hc13
                  replace HX := HX.put4 0 rfl (by omega) (by intro k q hk hne; match k, hk with | 0, hk => (simp at hk; subst hk; simp at hne ⊢; try omega) | 1, hk => (simp at hk; subst hk; simp at hne ⊢; try omega) | 2, hk => (simp at hk; subst hk; simp at hne ⊢; try omega) | k + 3, hk => simp at hk) (.int .i64 0) (.slice none 0 0) (.int .i64 0) (.int .i64 0)
                  simp only [List.set_cons_zero] at HX
                  have hc00 := HX.cell 0 0 rfl rfl
                  have hc01 := HX.cell 0 1 rfl rfl
                  have hc02 := HX.cell 0 2 rfl rfl
                  have hc03 := HX.cell 0 3 rfl rfl
                  try simp only [List.getElem_toArray, List.getElem_cons_zero, List.getElem_cons_succ] at hc00 hc01 hc02 hc03
                  exact bodyPost_ret (v := .tuple #[.agg #[.int .i64 0, .slice none 0 0, .int .i64 0, .int .i64 0], .int .i64 3]) (by simp [results, Tryz.results28, go_sem, hc00, hc01, hc02, hc03]) rfl ⟨_, _, rfl, Es.nil _ _, HX.below⟩
              · have HV1 := no hv
                obtain ⟨rfl, rfl, rfl, rfl, rfl⟩ := hP.out.bad (rend_bad HEND.out HYY.out (fun h => hv h.1))
                clear hv hT HEND HYY
                go_wp2_with fail
                refine (bhoard_any (b := false) A8 c8 out _ HOWN.es (by omega) HV1).mono ?_
                rintro e w6 ⟨rfl, hb⟩
                clear hc10 hc11 hc12 hc13
                replace HX := HX.ext hb
                replace HOWN := HOWN.ext hb
                clear hb
                have hc10 := HX.cell 1 0 rfl rfl
                have hc11 := HX.cell 1 1 rfl rfl
                have hc12 := HX.cell 1 2 rfl rfl
                have hc13 := HX.cell 1 3 rfl rfl
                try simp only [List.getElem_toArray, List.getElem_cons_zero, List.getElem_cons_succ] at hc10 hc11 hc12 hc13
                have hc00 := HX.cell 0 0 rfl rfl
                have hc01 := HX.cell 0 1 rfl rfl
                have hc02 := HX.cell 0 2 rfl rfl
                have hc03 := HX.cell 0 3 rfl rfl
                try simp only [List.getElem_toArray, List.getElem_cons_zero, List.getElem_cons_succ] at hc00 hc01 hc02 hc03
                have hf00 := HX.free 0 0 rfl
                have hf01 := HX.free 0 1 rfl
                have hf02 := HX.free 0 2 rfl
                have hf03 := HX.free 0 3 rfl
                try simp only [] at hf00 hf01 hf02 hf03
                go_wp2
                clear hc00 hf00 hc01 hf01 hc02 hf02 hc03 hf03 hc10 hc11 hc12 hc13
                replace HX := HX.put4 0 rfl (by omega) (by intro k q hk hne; match k, hk with | 0, hk => (simp at hk; subst hk; simp at hne ⊢; try omega) | 1, hk => (simp at hk; subst hk; simp at hne ⊢; try omega) | 2, hk => (simp at hk; subst hk; simp at hne ⊢; try omega) | k + 3, hk => simp at hk) (.int .i64 0) (.slice none 0 0) (.int .i64 0) (.int .i64 0)
                simp only [List.set_cons_zero] at HX
                have hc00 := HX.cell 0 0 rfl rfl
                have hc01 := HX.cell 0 1 rfl rfl
                have hc02 := HX.cell 0 2 rfl rfl
                have hc03 := HX.cell 0 3 rfl rfl
                try simp only [List.getElem_toArray, List.getElem_cons_zero, List.getElem_cons_succ] at hc00 hc01 hc02 hc03
                exact bodyPost_ret (v := .tuple #[.agg #[.int .i64 0, .slice none 0 0, .int .i64 0, .int .i64 0], .int .i64 3]) (by simp [results, Tryz.results28, go_sem, hc00, hc01, hc02, hc03]) rfl ⟨_, _, rfl, Es.nil _ _, HX.below⟩
            · obtain ⟨rfl, rfl, rfl, rfl, rfl⟩ := hP.out.bad (rend_years HEND.out (by rw [hRd]; exact hbad))
              clear HEND hbad HPY hRd
              have hc00 := HX.cell 0 0 rfl rfl
              have hc01 := HX.cell 0 1 rfl rfl
              have hc02 := HX.cell 0 2 rfl rfl
              have hc03 := HX.cell 0 3 rfl rfl
              try simp only [List.getElem_toArray, List.getElem_cons_zero, List.getElem_cons_succ] at hc00 hc01 hc02 hc03
              have hf00 := HX.free 0 0 rfl
              have hf01 := HX.free 0 1 rfl
              have hf02 := HX.free 0 2 rfl
              have hf03 := HX.free 0 3 rfl
              try simp only [] at hf00 hf01 hf02 hf03
              go_wp2
              clear hc00 hf00 hc01 hf01 hc02 hf02 hc03 hf03
              replace HX := HX.put4 0 rfl (by omega) (by intro k q hk hne; match k, hk with | 0, hk => (simp at hk; subst hk; simp at hne ⊢; try omega) | 1, hk => (simp at hk; subst hk; simp at hne ⊢; try omega) | 2, hk => (simp at hk; subst hk; simp at hne ⊢; try omega) | k + 3, hk => simp at hk) (.int .i64 0) (.slice none 0 0) (.int .i64 0) (.int .i64 0)
              simp only [List.set_cons_zero] at HX
              have hc00 := HX.cell 0 0 rfl rfl
              have hc01 := HX.cell 0 1 rfl rfl
              have hc02 := HX.cell 0 2 rfl rfl
              have hc03 := HX.cell 0 3 rfl rfl
              try simp only [List.getElem_toArray, List.getElem_cons_zero, List.getElem_cons_succ] at hc00 hc01 hc02 hc03
              exact bodyPost_ret (v := .tuple #[.agg #[.int .i64 0, .slice none 0 0, .int .i64 0, .int .i64 0], .int .i64 3]) (by simp [results, Tryz.results28, go_sem, hc00, hc01, hc02, hc03]) rfl ⟨_, _, rfl, Es.nil _ _, HX.below⟩
      · have HEND : Hid (REnd S n out R) := Lib.hid fun id l0 f t hv he => rinv_end HI.out (.inl (by rw [hR1]; simpa using hx)) hv he
        have hx2 : ¬ x0.toNat = 32 := fun h => hx (UInt8.toNat_inj.1 h)
        have hx3 : ((x0.toNat : Int) == 32) = false := by rw [beq_eq_false_iff_ne]; omega
        clear hR1 hxr HI hx
        go_upto_region 15 with fail
        clear hc11
        by_cases hR2 : R.length < 2
        · obtain ⟨rfl, rfl, rfl, rfl, rfl⟩ := hP.out.bad (rend_short HEND.out hR2)
          clear HEND
          have hc00 := HX.cell 0 0 rfl rfl
          have hc01 := HX.cell 0 1 rfl rfl
          have hc02 := HX.cell 0 2 rfl rfl
          have hc03 := HX.cell 0 3 rfl rfl
          try simp only [List.getElem_toArray, List.getElem_cons_zero, List.getElem_cons_succ] at hc00 hc01 hc02 hc03
          have hf00 := HX.free 0 0 rfl
          have hf01 := HX.free 0 1 rfl
          have hf02 := HX.free 0 2 rfl
          have hf03 := HX.free 0 3 rfl
          try simp only [] at hf00 hf01 hf02 hf03
          go_wp2
          clear hc00 hf00 hc01 hf01 hc02 hf02 hc03 hf03
          replace HX := HX.put4 0 rfl (by omega) (by intro k q hk hne; match k, hk with | 0, hk => (simp at hk; subst hk; simp at hne ⊢; try omega) | 1, hk => (simp at hk; subst hk; simp at hne ⊢; try omega) | k + 2, hk => simp at hk) (.int .i64 0) (.slice none 0 0) (.int .i64 0) (.int .i64 0)
          simp only [List.set_cons_zero] at HX
          have hc00 := HX.cell 0 0 rfl rfl
          have hc01 := HX.cell 0 1 rfl rfl
          have hc02 := HX.cell 0 2 rfl rfl
          have hc03 := HX.cell 0 3 rfl rfl
          try simp only [List.getElem_toArray, List.getElem_cons_zero, List.getElem_cons_succ] at hc00 hc01 hc02 hc03
          exact bodyPost_ret (v := .tuple #[.agg #[.int .i64 0, .slice none 0 0, .int .i64 0, .int .i64 0], .int .i64 3]) (by simp [results, Tryz.results28, go_sem, hc00, hc01, hc02, hc03]) rfl ⟨_, _, rfl, Es.nil _ _, HX.below⟩
        · have hxd : (str R).extract 2 R.length = str (R.drop 2) := str_drop R 2
          have hld : (R.drop 2).length ≤ 1000000 := by rw [List.length_drop]; omega
          obtain ⟨fy, ty, Ey, hy⟩ := PY.ex (R.drop 2)
          have HPY := Lib.hid hy
          generalize hRd : R.drop 2 = R5 at *
          go_wp2_with fail
          refine (ryparse_any _ hld HPY).mono ?_
          rintro e w5 ⟨rfl, hb⟩
          replace HX := HX.ext hb
          replace HOWN := HOWN.ext hb
          replace hBr := Nat.le_trans hBr hb.size
          clear hb
          go_upto_region 18 with fail
          have hlt2 := HX.lt 1 rfl
          simp only [] at hlt2
          replace HOWN := HOWN.ext (below_alloc w5 (.cells #[.int .i64 fy, .int .i64 ty] 24))
          replace HX := HX.new #[.int .i64 fy, .int .i64 ty] 24
          simp only [List.cons_append, List.nil_append] at HX
          have hgB : B ≤ w5.heap.size := hBr
          clear hBr
          generalize w5.alloc (.cells #[.int .i64 fy, .int .i64 ty] 24) = W5 at *
          generalize w5.heap.size = g5 at *
          rcases hy with ⟨rfl, hyv, hyt⟩ | ⟨rfl, rfl, rfl, hbad⟩
          · have HYY : Hid (YV fy ty ∧ yearText fy ty = R.drop 2) := Lib.hid ⟨hyv, hyt.trans hRd.symm⟩
            clear hyv hyt HPY hRd
            have hc20 := HX.cell 2 0 rfl rfl
            have hc21 := HX.cell 2 1 rfl rfl
            try simp only [List.getElem_toArray, List.getElem_cons_zero, List.getElem_cons_succ] at hc20 hc21
            have hc12 := HX.cell 1 2 rfl rfl
            have hc13 := HX.cell 1 3 rfl rfl
            try simp only [List.getElem_toArray, List.getElem_cons_zero, List.getElem_cons_succ] at hc12 hc13
            have hf12 := HX.free 1 2 rfl
            have hf13 := HX.free 1 3 rfl
            try simp only [] at hf12 hf13
            go_upto_region 21 with fail
            clear hc20 hc21
            clear hc12 hf12 hc13 hf13
            replace HX := HX.set1 1 rfl (by omega) (by intro k q hk hne; match k, hk with | 0, hk => (simp at hk; subst hk; simp at hne ⊢; try omega) | 1, hk => (simp at hk; subst hk; simp at hne ⊢; try omega) | 2, hk => (simp at hk; subst hk; simp at hne ⊢; try omega) | k + 3, hk => simp at hk) 2 (.int .i64 fy)
            simp only [List.set_cons_zero, List.set_cons_succ, List.setIfInBounds_toArray] at HX
            replace HX := HX.set1 1 rfl (by omega) (by intro k q hk hne; match k, hk with | 0, hk => (simp at hk; subst hk; simp at hne ⊢; try omega) | 1, hk => (simp at hk; subst hk; simp at hne ⊢; try omega) | 2, hk => (simp at hk; subst hk; simp at hne ⊢; try omega) | k + 3, hk => simp at hk) 3 (.int .i64 ty)
            simp only [List.set_cons_zero, List.set_cons_succ, List.setIfInBounds_toArray] at HX
            replace HOWN := HOWN.far (p := ⟨w.heap.size + 1, 2, none⟩) (by show w.heap.size + 1 < B; omega) (.int .i64 fy)
            replace HOWN := HOWN.far (p := ⟨w.heap.size + 1, 3, none⟩) (by show w.heap.size + 1 < B; omega) (.int .i64 ty)
            generalize (W5.setCell ⟨w.heap.size + 1, 2, none⟩ (.int .i64 fy)).setCell ⟨w.heap.size + 1, 3, none⟩ (.int .i64 ty) = W6 at *
            obtain ⟨T, hT⟩ := PHT.ex n out fy ty
            have hc10 := HX.cell 1 0 rfl rfl
            have hc11 := HX.cell 1 1 rfl rfl
            have hc12 := HX.cell 1 2 rfl rfl
            have hc13 := HX.cell 1 3 rfl rfl
            try simp only [List.getElem_toArray, List.getElem_cons_zero, List.getElem_cons_succ] at hc10 hc11 hc12 hc13
            by_cases hv : HV n out fy ty
            · have HV1 := yes hv
              go_wp2_with fail
              refine (bhoard_any (b := true) A8 c8 out _ HOWN.es (by omega) HV1).mono ?_
              rintro e w6 ⟨rfl, hb⟩
              clear hc10 hc11 hc12 hc13
              replace HX := HX.ext hb
              replace HOWN := HOWN.ext hb
              clear hb
              have hc10 := HX.cell 1 0 rfl rfl
              have hc11 := HX.cell 1 1 rfl rfl
              have hc12 := HX.cell 1 2 rfl rfl
              have hc13 := HX.cell 1 3 rfl rfl
              try simp only [List.getElem_toArray, List.getElem_cons_zero, List.getElem_cons_succ] at hc10 hc11 hc12 hc13
              go_wp2_with fail
              refine (rtext32_any A8 c8 out _ HOWN.es (by omega) hT).mono ?_
              rintro e w7 ⟨rfl, hb⟩
              clear hc10 hc11 hc12 hc13
              replace HX := HX.ext hb
              replace HOWN := HOWN.ext hb
              clear hb
              have hc10 := HX.cell 1 0 rfl rfl
              have hc11 := HX.cell 1 1 rfl rfl
              have hc12 := HX.cell 1 2 rfl rfl
              have hc13 := HX.cell 1 3 rfl rfl
              try simp only [List.getElem_toArray, List.getElem_cons_zero, List.getElem_cons_succ] at hc10 hc11 hc12 hc13
              by_cases hTS : T = S
              · have hse : ((str T).toList == (str S).toList) = true := str_eq (beq_iff_eq.2 hTS)
                rcases hT with ⟨_, hT⟩ | ⟨hnv, _⟩
                · have hok := hP.out.ok hv (hT.trans hTS)
                  obtain ⟨rfl, rfl, rfl, rfl, rfl⟩ := hok
                  clear hv hT hTS hP HEND HYY
                  have hc00 := HX.cell 0 0 rfl rfl
                  have hc01 := HX.cell 0 1 rfl rfl
                  have hc02 := HX.cell 0 2 rfl rfl
                  have hc03 := HX.cell 0 3 rfl rfl
                  try simp only [List.getElem_toArray, List.getElem_cons_zero, List.getElem_cons_succ] at hc00 hc01 hc02 hc03
                  have hf00 := HX.free 0 0 rfl
                  have hf01 := HX.free 0 1 rfl
                  have hf02 := HX.free 0 2 rfl
                  have hf03 := HX.free 0 3 rfl
                  try simp only [] at hf00 hf01 hf02 hf03
                  go_wp2
                  clear hc00 hf00 hc01 hf01 hc02 hf02 hc03 hf03 hc10 hc11 hc12 hc13
                  replace HOWN := HOWN.far (p := ⟨w.heap.size, 0, none⟩) (by show w.heap.size < B; omega) (.int .i64 (n : Int))
                  replace HOWN := HOWN.far (p := ⟨w.heap.size, 1, none⟩) (by show w.heap.size < B; omega) (.slice A8 l.length c8)
                  replace HOWN := HOWN.far (p := ⟨w.heap.size, 2, none⟩) (by show w.heap.size < B; omega) (.int .i64 f)
                  replace HOWN := HOWN.far (p := ⟨w.heap.size, 3, none⟩) (by show w.heap.size < B; omega) (.int .i64 t)
                  replace HX := HX.put4 0 rfl (by omega) (by intro k q hk hne; match k, hk with | 0, hk => (simp at hk; subst hk; simp at hne ⊢; try omega) | 1, hk => (simp at hk; subst hk; simp at hne ⊢; try omega) | 2, hk => (simp at hk; subst hk; simp at hne ⊢; try omega) | k + 3, hk => simp at hk) (.int .i64 (n : Int)) (.slice A8 l.length c8) (.int .i64 f) (.int .i64 t)
                  simp only [List.set_cons_zero] at HX
                  have hc00 := HX.cell 0 0 rfl rfl
                  have hc01 := HX.cell 0 1 rfl rfl
                  have hc02 := HX.cell 0 2 rfl rfl
                  have hc03 := HX.cell 0 3 rfl rfl
                  try simp only [List.getElem_toArray, List.getElem_cons_zero, List.getElem_cons_succ] at hc00 hc01 hc02 hc03
                  exact bodyPost_ret (v := .tuple #[.agg #[.int .i64 (n : Int), .slice A8 l.length c8, .int .i64 f, .int .i64 t], .int .i64 0]) (by simp [results, Tryz.results28, go_sem, hc00, hc01, hc02, hc03]) rfl ⟨_, _, rfl, HOWN.es, HX.below⟩
                · exact absurd hv hnv
              · have hse : ((str T).toList == (str S).toList) = false := str_eq (beq_eq_false_iff_ne.2 hTS)
                have hno : ¬ (HV n out fy ty ∧ hoardText n out fy ty = S) := fun h => by
                  rcases hT with ⟨_, hT⟩ | ⟨hnv, _⟩
                  · exact hTS (hT.symm.trans h.2)
                  · exact hnv h.1
                obtain ⟨rfl, rfl, rfl, rfl, rfl⟩ := hP.out.bad (rend_bad HEND.out HYY.out hno)
                clear hT hTS hno hP HEND HYY hv
                have hc00 := HX.cell 0 0 rfl rfl
                have hc01 := HX.cell 0 1 rfl rfl
                have hc02 := HX.cell 0 2 rfl rfl
                have hc03 := HX.cell 0 3 rfl rfl
                try simp only [List.getElem_toArray, List.getElem_cons_zero, List.getElem_cons_succ] at hc00 hc01 hc02 hc03
                have hf00 := HX.free 0 0 rfl
                have hf01 := HX.free 0 1 rfl
                have hf02 := HX.free 0 2 rfl
                have hf03 := HX.free 0 3 rfl
                try simp only [] at hf00 hf01 hf02 hf03
                go_wp2
                clear hc00 hf00 hc01 hf01 hc02 hf02 hc03 hf03 hc10 hc11 hc12 hc13
                replace HX := HX.put4 0 rfl (by omega) (by intro k q hk hne; match k, hk with | 0, hk => (simp at hk; subst hk; simp at hne ⊢; try omega) | 1, hk => (simp at hk; subst hk; simp at hne ⊢; try omega) | 2, hk => (simp at hk; subst hk; simp at hne ⊢; try omega) | k + 3, hk => simp at hk) (.int .i64 0) (.slice none 0 0) (.int .i64 0) (.int .i64 0)
                simp only [List.set_cons_zero] at HX
                have hc00 := HX.cell 0 0 rfl rfl
                have hc01 := HX.cell 0 1 rfl rfl
                have hc02 := HX.cell 0 2 rfl rfl
                have hc03 := HX.cell 0 3 rfl rfl
                try simp only [List.getElem_toArray, List.getElem_cons_zero, List.getElem_cons_succ] at hc00 hc01 hc02 hc03
                exact bodyPost_ret (v := .tuple #[.agg #[.int .i64 0, .slice none 0 0, .int .i64 0, .int .i64 0], .int .i64 3]) (by simp [results, Tryz.results28, go_sem, hc00, hc01, hc02, hc03]) rfl ⟨_, _, rfl, Es.nil _ _, HX.below⟩
            · have HV1 := no hv
              obtain ⟨rfl, rfl, rfl, rfl, rfl⟩ := hP.out.bad (rend_bad HEND.out HYY.out (fun h => hv h.1))
              clear hv hT HEND HYY
              go_wp2_with fail
              refine (bhoard_any (b := false) A8 c8 out _ HOWN.es (by omega) HV1).mono ?_
              rintro e w6 ⟨rfl, hb⟩
              clear hc10 hc11 hc12 hc13
              replace HX := HX.ext hb
              replace HOWN := HOWN.ext hb
              clear hb
              have hc10 := HX.cell 1 0 rfl rfl
              have hc11 := HX.cell 1 1 rfl rfl
              have hc12 := HX.cell 1 2 rfl rfl
              have hc13 := HX.cell 1 3 rfl rfl
              try simp only [List.getElem_toArray, List.getElem_cons_zero, List.getElem_cons_succ] at hc10 hc11 hc12 hc13
              have hc00 := HX.cell 0 0 rfl rfl
              have hc01 := HX.cell 0 1 rfl rfl
              have hc02 := HX.cell 0 2 rfl rfl
              have hc03 := HX.cell 0 3 rfl rfl
              try simp only [List.getElem_toArray, List.getElem_cons_zero, List.getElem_cons_succ] at hc00 hc01 hc02 hc03
              have hf00 := HX.free 0 0 rfl
              have hf01 := HX.free 0 1 rfl
              have hf02 := HX.free 0 2 rfl
              have hf03 := HX.free 0 3 rfl
              try simp only [] at hf00 hf01 hf02 hf03
              go_wp2
              clear hc00 hf00 hc01 hf01 hc02 hf02 hc03 hf03 hc10 hc11 hc12 hc13
              replace HX := HX.put4 0 rfl (by omega) (by intro k q hk hne; match k, hk with | 0, hk => (simp at hk; subst hk; simp at hne ⊢; try omega) | 1, hk => (simp at hk; subst hk; simp at hne ⊢; try omega) | 2, hk => (simp at hk; subst hk; simp at hne ⊢; try omega) | k + 3, hk => simp at hk) (.int .i64 0) (.slice none 0 0) (.int .i64 0) (.int .i64 0)
              simp only [List.set_cons_zero] at HX
              have hc00 := HX.cell 0 0 rfl rfl
              have hc01 := HX.cell 0 1 rfl rfl
              have hc02 := HX.cell 0 2 rfl rfl
              have hc03 := HX.cell 0 3 rfl rfl
              try simp only [List.getElem_toArray, List.getElem_cons_zero, List.getElem_cons_succ] at hc00 hc01 hc02 hc03
              exact bodyPost_ret (v := .tuple #[.agg #[.int .i64 0, .slice none 0 0, .int .i64 0, .int .i64 0], .int .i64 3]) (by simp [results, Tryz.results28, go_sem, hc00, hc01, hc02, hc03]) rfl ⟨_, _, rfl, Es.nil _ _, HX.below⟩
          · obtain ⟨rfl, rfl, rfl, rfl, rfl⟩ := hP.out.bad (rend_years HEND.out (by rw [hRd]; exact hbad))
            clear HEND hbad HPY hRd
            have hc00 := HX.cell 0 0 rfl rfl
            have hc01 := HX.cell 0 1 rfl rfl
            have hc02 := HX.cell 0 2 rfl rfl
            have hc03 := HX.cell 0 3 rfl rfl
            try simp only [List.getElem_toArray, List.getElem_cons_zero, List.getElem_cons_succ] at hc00 hc01 hc02 hc03
            have hf00 := HX.free 0 0 rfl
            have hf01 := HX.free 0 1 rfl
            have hf02 := HX.free 0 2 rfl
            have hf03 := HX.free 0 3 rfl
            try simp only [] at hf00 hf01 hf02 hf03
            go_wp2
            clear hc00 hf00 hc01 hf01 hc02 hf02 hc03 hf03
            replace HX := HX.put4 0 rfl (by omega) (by intro k q hk hne; match k, hk with | 0, hk => (simp at hk; subst hk; simp at hne ⊢; try omega) | 1, hk => (simp at hk; subst hk; simp at hne ⊢; try omega) | 2, hk => (simp at hk; subst hk; simp at hne ⊢; try omega) | k + 3, hk => simp at hk) (.int .i64 0) (.slice none 0 0) (.int .i64 0) (.int .i64 0)
            simp only [List.set_cons_zero] at HX
            have hc00 := HX.cell 0 0 rfl rfl
            have hc01 := HX.cell 0 1 rfl rfl
            have hc02 := HX.cell 0 2 rfl rfl
            have hc03 := HX.cell 0 3 rfl rfl
            try simp only [List.getElem_toArray, List.getElem_cons_zero, List.getElem_cons_succ] at hc00 hc01 hc02 hc03
            exact bodyPost_ret (v := .tuple #[.agg #[.int .i64 0, .slice none 0 0, .int .i64 0, .int .i64 0], .int .i64 3]) (by simp [results, Tryz.results28, go_sem, hc00, hc01, hc02, hc03]) rfl ⟨_, _, rfl, Es.nil _ _, HX.below⟩
    · have HEND : Hid (REnd S n out R) := Lib.hid fun id l0 f t hv he => rinv_end HI.out (.inl (by rw [List.eq_nil_of_length_eq_zero (show R.length = 0 by omega)]; simp)) hv he
      obtain ⟨rfl, rfl, rfl, rfl, rfl⟩ := hP.out.bad (rend_short HEND.out (by omega))
      clear HEND HI
      go_upto_region 15 with fail
      clear hc11
      have hc00 := HX.cell 0 0 rfl rfl
      have hc01 := HX.cell 0 1 rfl rfl
      have hc02 := HX.cell 0 2 rfl rfl
      have hc03 := HX.cell 0 3 rfl rfl
      try simp only [List.getElem_toArray, List.getElem_cons_zero, List.getElem_cons_succ] at hc00 hc01 hc02 hc03
      have hf00 := HX.free 0 0 rfl
      have hf01 := HX.free 0 1 rfl
      have hf02 := HX.free 0 2 rfl
      have hf03 := HX.free 0 3 rfl
      try simp only [] at hf00 hf01 hf02 hf03
      go_wp2
      clear hc00 hf00 hc01 hf01 hc02 hf02 hc03 hf03
      replace HX := HX.put4 0 rfl (by omega) (by intro k q hk hne; match k, hk with | 0, hk => (simp at hk; subst hk; simp at hne ⊢; try omega) | 1, hk => (simp at hk; subst hk; simp at hne ⊢; try omega) | k + 2, hk => simp at hk) (.int .i64 0) (.slice none 0 0) (.int .i64 0) (.int .i64 0)
      simp only [List.set_cons_zero] at HX
      have hc00 := HX.cell 0 0 rfl rfl
      have hc01 := HX.cell 0 1 rfl rfl
      have hc02 := HX.cell 0 2 rfl rfl
      have hc03 := HX.cell 0 3 rfl rfl
      try simp only [List.getElem_toArray, List.getElem_cons_zero, List.getElem_cons_succ] at hc00 hc01 hc02 hc03
      exact bodyPost_ret (v := .tuple #[.agg #[.int .i64 0, .slice none 0 0, .int .i64 0, .int .i64 0], .int .i64 3]) (by simp [results, Tryz.results28, go_sem, hc00, hc01, hc02, hc03]) rfl ⟨_, _, rfl, Es.nil _ _, HX.below⟩
set_option maxHeartbeats 4000000 in
set_option maxRecDepth 100000 in
theorem rhp_b {S R0 S1 : List UInt8} {n : Nat} {id f t E : Int} {l : List (Int × Int)} (w : World) (hl : S.length ≤ 100000) (hS2 : 2 ≤ S.length) (hP : Hid (PH S id l f t E)) (hsS : (str S).size = S.length) (hxS : (str S).extract 1 S.length = str S1) (hlS : S1.length ≤ 100000)
    (HN : Hid (numK 3 S1 0 = (n, R0))) (_hn : n < 1000) (hl0 : R0.length ≤ 100000) (hs0 : (str R0).size = R0.length) (HI0 : Hid (RInv S n [] (R0.drop 1))) (h00 : R0.length = 0) (hR00 : R0.drop 1 = R0) :
    Calls Tryz.prog 28 #[.string (str S)] w (RetM w id l f t E) := by
  go_enter Tryz.func28, Tryz.ntmps28
  go_upto_region 4 with fail
  have HX := BL.two w #[.int .i64 0, .slice none 0 0, .int .i64 0, .int .i64 0] #[.int .i64 0, .slice none 0 0, .int .i64 0, .int .i64 0] 26 26
  generalize (w.alloc (.cells #[.int .i64 0, .slice none 0 0, .int .i64 0, .int .i64 0] 26)).alloc (.cells #[.int .i64 0, .slice none 0 0, .int .i64 0, .int .i64 0] 26) = W1 at *
  go_wp2_with fail
  refine (rnum32_any _ HN (by omega)).mono ?_
  rintro e w2 ⟨rfl, hb⟩
  replace HX := HX.ext hb
  clear hb
  have hc10 := HX.cell 1 0 rfl rfl
  have hf10 := HX.free 1 0 rfl
  try simp only [List.getElem_toArray, List.getElem_cons_zero] at hc10 hf10
  go_upto_region 6 with fail
  clear hc10 hf10
  replace HX := HX.set1 1 rfl (by omega) (by intro k q hk hne; match k, hk with | 0, hk => (simp at hk; subst hk; simp at hne ⊢; try omega) | 1, hk => (simp at hk; subst hk; simp at hne ⊢; try omega) | k + 2, hk => simp at hk) 0 (.int .i64 (n : Int))
  simp only [List.set_cons_zero, List.set_cons_succ, List.setIfInBounds_toArray] at HX
  generalize w2.setCell ⟨w.heap.size + 1, 0, none⟩ (.int .i64 (n : Int)) = W2 at *
  have hltB := HX.lt 1 rfl
  simp only [] at hltB
  obtain ⟨B, hB⟩ : ∃ B, W2.heap.size = B := ⟨_, rfl⟩
  have hBw : w.heap.size ≤ B := by omega
  have hgB1 : w.heap.size + 1 < B := by omega
  have hBr : B ≤ W2.heap.size := by omega
  clear hB hltB
  have HOWN := EOwn.nil W2 B
  go_wp2_with fail
  go_loopg [6] 40 (fun kk x wr => ∃ (A8 : Option Addr) (c8 : Nat) (out : List (Int × Int)) (R : List UInt8), Hid (out.length + kk = 40) ∧ x = .string (str R) ∧ R.length ≤ 100000 ∧ Hid (RInv S n out R) ∧ EOwn wr B A8 c8 out ∧ BL w wr [(w.heap.size, #[.int .i64 0, .slice none 0 0, .int .i64 0, .int .i64 0], 26), (w.heap.size + 1, #[.int .i64 (n : Int), .slice A8 out.length c8, .int .i64 0, .int .i64 0], 26)] ∧ B ≤ wr.heap.size)
  case atStart => exact ⟨none, 0, [], R0, Lib.hid rfl, rfl, hl0, Lib.hid (by rw [← hR00]; exact HI0.out), HOWN, HX, hBr⟩
  case round =>
    clear HX HOWN hBr HI0
    obtain ⟨A8, c8, out, R, HLEN, rfl, hlR, HI, HOWN, HX, hBr⟩ := hrel
    have hsR : (str R).size = R.length := str_size R
    have hc11 := HX.cell 1 1 rfl rfl
    try simp only [List.getElem_toArray, List.getElem_cons_zero, List.getElem_cons_succ] at hc11
    have hol : out.length ≤ 40 := by have := HLEN.out; omega
    by_cases hR0 : 0 < R.length
    · obtain ⟨x0, R1, hR1⟩ : ∃ x r, R = x :: r := by cases R with | nil => simp at hR0 | cons x r => exact ⟨x, r, rfl⟩
      have hi0 : ∀ h, (str R)[0]'h = x0 := by rw [hR1]; exact fun _ => rfl
      have hxr : (str R).extract 1 R.length = str R1 := by have := str_drop R 1; rw [this, hR1]; rfl
      have hl1 : R1.length ≤ 100000 := by rw [hR1] at hlR; simp at hlR; omega
      by_cases hx : x0 = 32
      · by_cases h40 : out.length < 40
        · have HI32 : Hid (RInv S n out (32 :: R1)) := Lib.hid (by have := HI.out; rwa [hR1, hx] at this)
          subst hx
          clear hR1
          have hidx : ∀ h, (str R)[0]'h = 32 := hi0
          have hx1 : (str R).extract 1 R.length = str R1 := hxr
          have HLEN2 : out.length ≤ 39 := by omega
          obtain ⟨k, R2, hk2⟩ : ∃ k R, numK 3 R1 0 = (k, R) := ⟨_, _, rfl⟩
          have hl2 : R2.length ≤ 100000 := by have := numK_len 3 R1 0; rw [hk2] at this; simp at this; omega
          have hkb : k < 1000 := by have := numK_lt 3 R1 0; rw [hk2] at this; simpa using this
          have hs2 : (str R2).size = R2.length := str_size R2
          have HK := Lib.hid hk2
          clear hk2
          go_upto_region 10 with fail
          clear hc11
          have hg7 := HX.lt 1 rfl
          simp only [] at hg7
          have HLT := Lib.hid HOWN.lt
          replace HOWN := HOWN.alloc (.cells #[.int .i64 0, .int .i64 0] 77)
          replace HX := HX.new #[.int .i64 0, .int .i64 0] 77
          simp only [List.cons_append, List.nil_append] at HX
          have hgB : B ≤ wr.heap.size := hBr
          replace hBr : B ≤ (wr.alloc (.cells #[.int .i64 0, .int .i64 0] 77)).heap.size := by simp; omega
          generalize wr.alloc (.cells #[.int .i64 0, .int .i64 0] 77) = W7 at *
          generalize wr.heap.size = g7 at *
          have hc20 := HX.cell 2 0 rfl rfl
          have hc21 := HX.cell 2 1 rfl rfl
          try simp only [List.getElem_toArray, List.getElem_cons_zero, List.getElem_cons_succ] at hc20 hc21
          have hf20 := HX.free 2 0 rfl
          have hf21 := HX.free 2 1 rfl
          try simp only [] at hf20 hf21
          go_wp2_with fail
          refine (rnum32_any _ HK (by omega)).mono ?_
          rintro e w4 ⟨rfl, hb⟩
          clear hc20 hf20 hc21 hf21
          replace HX := HX.ext hb
          replace HOWN := HOWN.ext hb
          replace hBr := Nat.le_trans hBr hb.size
          clear hb
          have hc20 := HX.cell 2 0 rfl rfl
          have hc21 := HX.cell 2 1 rfl rfl
          try simp only [List.getElem_toArray, List.getElem_cons_zero, List.getElem_cons_succ] at hc20 hc21
          have hf20 := HX.free 2 0 rfl
          have hf21 := HX.free 2 1 rfl
          try simp only [] at hf20 hf21
          go_upto_region 11 with fail
          clear hc20 hf20 hc21 hf21
          replace HX := HX.set1 2 rfl (by omega) (by intro k q hk hne; match k, hk with | 0, hk => (simp at hk; subst hk; simp at hne ⊢; try omega) | 1, hk => (simp at hk; subst hk; simp at hne ⊢; try omega) | 2, hk => (simp at hk; subst hk; simp at hne ⊢; try omega) | k + 3, hk => simp at hk) 0 (.int .i64 (k : Int))
          simp only [List.set_cons_zero, List.set_cons_succ, List.setIfInBounds_toArray] at HX
          replace HOWN := HOWN.off (p := ⟨g7, 0, none⟩) HLT.out (.int .i64 (k : Int))
          replace hBr : B ≤ (w4.setCell ⟨g7, 0, none⟩ (.int .i64 (k : Int))).heap.size := by simpa [World.setCell] using hBr
          generalize w4.setCell ⟨g7, 0, none⟩ (.int .i64 (k : Int)) = w41 at *
          by_cases h20 : 0 < R2.length
          · have hx2 : (str R2).extract 1 R2.length = str (R2.drop 1) := str_drop R2 1
            obtain ⟨v, R4, hv4⟩ : ∃ v R, numK 3 (R2.drop 1) 0 = (v, R) := ⟨_, _, rfl⟩
            have hl4 : R4.length ≤ 100000 := by have := numK_len 3 (R2.drop 1) 0; rw [hv4] at this; rw [List.length_drop] at this; simp at this; omega
            have hvb : v < 1000 := by have := numK_lt 3 (R2.drop 1) 0; rw [hv4] at this; simpa using this
            have HI2 : Hid (RInv S n (out ++ [((k : Int), (v : Int))]) R4) := Lib.hid (rinv_step HI32.out HK.out hv4)
            have HV4 := Lib.hid hv4
            clear hv4
            have hl3 : (R2.drop 1).length ≤ 1000000 := by rw [List.length_drop]; omega
            generalize R2.drop 1 = R3 at *
            have hc20 := HX.cell 2 0 rfl rfl
            have hc21 := HX.cell 2 1 rfl rfl
            try simp only [List.getElem_toArray, List.getElem_cons_zero, List.getElem_cons_succ] at hc20 hc21
            have hf20 := HX.free 2 0 rfl
            have hf21 := HX.free 2 1 rfl
            try simp only [] at hf20 hf21
            have hc10 := HX.cell 1 0 rfl rfl
            have hc11 := HX.cell 1 1 rfl rfl
            have hc12 := HX.cell 1 2 rfl rfl
            have hc13 := HX.cell 1 3 rfl rfl
            try simp only [List.getElem_toArray, List.getElem_cons_zero, List.getElem_cons_succ] at hc10 hc11 hc12 hc13
            go_wp2_with fail
            refine (rnum32_any _ HV4 (by omega)).mono ?_
            rintro e w5 ⟨rfl, hb⟩
            clear hc20 hf20 hc21 hf21
            clear hc10 hc11 hc12 hc13
            replace HX := HX.ext hb
            replace HOWN := HOWN.ext hb
            replace hBr := Nat.le_trans hBr hb.size
            clear hb
            have hc20 := HX.cell 2 0 rfl rfl
            have hc21 := HX.cell 2 1 rfl rfl
            try simp only [List.getElem_toArray, List.getElem_cons_zero, List.getElem_cons_succ] at hc20 hc21
            have hf20 := HX.free 2 0 rfl
            have hf21 := HX.free 2 1 rfl
            try simp only [] at hf20 hf21
            have hc10 := HX.cell 1 0 rfl rfl
            have hc11 := HX.cell 1 1 rfl rfl
            have hc12 := HX.cell 1 2 rfl rfl
            have hc13 := HX.cell 1 3 rfl rfl
            try simp only [List.getElem_toArray, List.getElem_cons_zero, List.getElem_cons_succ] at hc10 hc11 hc12 hc13
            go_upto_region 14 with fail
            clear hc20 hf20 hc21 hf21
            clear hc10 hc11 hc12 hc13
            replace HX := HX.set1 2 rfl (by omega) (by intro k q hk hne; match k, hk with | 0, hk => (simp at hk; subst hk; simp at hne ⊢; try omega) | 1, hk => (simp at hk; subst hk; simp at hne ⊢; try omega) | 2, hk => (simp at hk; subst hk; simp at hne ⊢; try omega) | k + 3, hk => simp at hk) 1 (.int .i64 (v : Int))
            simp only [List.set_cons_zero, List.set_cons_succ, List.setIfInBounds_toArray] at HX
            replace HOWN := HOWN.off (p := ⟨g7, 1, none⟩) HLT.out (.int .i64 (v : Int))
            replace hBr : B ≤ (w5.setCell ⟨g7, 1, none⟩ (.int .i64 (v : Int))).heap.size := by simpa [World.setCell] using hBr
            generalize w5.setCell ⟨g7, 1, none⟩ (.int .i64 (v : Int)) = w6 at *
            have hc20 := HX.cell 2 0 rfl rfl
            have hc21 := HX.cell 2 1 rfl rfl
            try simp only [List.getElem_toArray, List.getElem_cons_zero, List.getElem_cons_succ] at hc20 hc21
            have hc10 := HX.cell 1 0 rfl rfl
            have hc11 := HX.cell 1 1 rfl rfl
            have hc12 := HX.cell 1 2 rfl rfl
            have hc13 := HX.cell 1 3 rfl rfl
            try simp only [List.getElem_toArray, List.getElem_cons_zero, List.getElem_cons_succ] at hc10 hc11 hc12 hc13
            go_wp2_with (at_builtin; refine wp_epush _ rfl _ _ rfl rfl rfl HOWN (by omega) hBr ?_)
            intro A9 c9 w7 HOWN2 hb7 hlt7
            replace HX := (BL.init (l := [(w.heap.size, #[.int .i64 0, .slice none 0 0, .int .i64 0, .int .i64 0], 26), (w.heap.size + 1, #[.int .i64 (n : Int), .slice A8 out.length c8, .int .i64 0, .int .i64 0], 26)]) HX).low hBw (by intro i q hq; match i, hq with | 0, hq => (simp at hq; subst hq; simp; try omega) | 1, hq => (simp at hq; subst hq; simp; try omega) | i + 2, hq => simp at hq) hb7
            clear hc20 hc21
            clear hc10 hc11 hc12 hc13
            clear HOWN hb7
            have hB7 : B ≤ w7.heap.size := by omega
            clear hlt7 hBr
            have hc11 := HX.cell 1 1 rfl rfl
            have hf11 := HX.free 1 1 rfl
            try simp only [List.getElem_toArray, List.getElem_cons_zero, List.getElem_cons_succ] at hc11 hf11
            have HI2b := HI2
            clear HI32 HK HI HV4 HLT
            go_wp2
            clear hc11 hf11
            replace HX := HX.set1 1 rfl (by omega) (by intro k q hk hne; match k, hk with | 0, hk => (simp at hk; subst hk; simp at hne ⊢; try omega) | 1, hk => (simp at hk; subst hk; simp at hne ⊢; try omega) | k + 2, hk => simp at hk) 1 (.slice A9 (out.length + 1) c9)
            simp only [List.set_cons_zero, List.set_cons_succ, List.setIfInBounds_toArray] at HX
            replace HOWN2 := HOWN2.far (p := ⟨w.heap.size + 1, 1, none⟩) (by show w.heap.size + 1 < B; omega) (.slice A9 (out.length + 1) c9)
            have hB8 : B ≤ (w7.setCell ⟨w.heap.size + 1, 1, none⟩ (.slice A9 (out.length + 1) c9)).heap.size := by simpa [World.setCell] using hB7
            go_roundg (40 - (out.length + 1))
            case measure => have := HLEN.out; omega
            case rel => exact ⟨A9, c9, out ++ [((k : Int), (v : Int))], R4, Lib.hid (by have := HLEN.out; simp; omega), rfl, hl4, HI2b, HOWN2, by rw [List.length_append]; exact HX, hB8⟩
          · have hR3 : R2.drop 1 = R2 := by rw [List.eq_nil_of_length_eq_zero (show R2.length = 0 by omega)]; rfl
            obtain ⟨v, R4, hv4⟩ : ∃ v R, numK 3 (R2.drop 1) 0 = (v, R) := ⟨_, _, rfl⟩
            have hl4 : R4.length ≤ 100000 := by have := numK_len 3 (R2.drop 1) 0; rw [hv4] at this; rw [List.length_drop] at this; simp at this; omega
            have hvb : v < 1000 := by have := numK_lt 3 (R2.drop 1) 0; rw [hv4] at this; simpa using this
            have HI2 : Hid (RInv S n (out ++ [((k : Int), (v : Int))]) R4) := Lib.hid (rinv_step HI32.out HK.out hv4)
            rw [hR3] at hv4
            have HV4 := Lib.hid hv4
            clear hv4
            clear hR3
            have hc20 := HX.cell 2 0 rfl rfl
            have hc21 := HX.cell 2 1 rfl rfl
            try simp only [List.getElem_toArray, List.getElem_cons_zero, List.getElem_cons_succ] at hc20 hc21
            have hf20 := HX.free 2 0 rfl
            have hf21 := HX.free 2 1 rfl
            try simp only [] at hf20 hf21
            have hc10 := HX.cell 1 0 rfl rfl
            have hc11 := HX.cell 1 1 rfl rfl
            have hc12 := HX.cell 1 2 rfl rfl
            have hc13 := HX.cell 1 3 rfl rfl
            try simp only [List.getElem_toArray, List.getElem_cons_zero, List.getElem_cons_succ] at hc10 hc11 hc12 hc13
            go_wp2_with fail
            refine (rnum32_any _ HV4 (by omega)).mono ?_
            rintro e w5 ⟨rfl, hb⟩
            clear hc20 hf20 hc21 hf21
            clear hc10 hc11 hc12 hc13
            replace HX := HX.ext hb
            replace HOWN := HOWN.ext hb
            replace hBr := Nat.le_trans hBr hb.size
            clear hb
            have hc20 := HX.cell 2 0 rfl rfl
            have hc21 := HX.cell 2 1 rfl rfl
            try simp only [List.getElem_toArray, List.getElem_cons_zero, List.getElem_cons_succ] at hc20 hc21
            have hf20 := HX.free 2 0 rfl
            have hf21 := HX.free 2 1 rfl
            try simp only [] at hf20 hf21
            have hc10 := HX.cell 1 0 rfl rfl
            have hc11 := HX.cell 1 1 rfl rfl
            have hc12 := HX.cell 1 2 rfl rfl
            have hc13 := HX.cell 1 3 rfl rfl
            try simp only [List.getElem_toArray, List.getElem_cons_zero, List.getElem_cons_succ] at hc10 hc11 hc12 hc13
            go_upto_region 14 with fail
            clear hc20 hf20 hc21 hf21
            clear hc10 hc11 hc12 hc13
            replace HX := HX.set1 2 rfl (by omega) (by intro k q hk hne; match k, hk with | 0, hk => (simp at hk; subst hk; simp at hne ⊢; try omega) | 1, hk => (simp at hk; subst hk; simp at hne ⊢; try omega) | 2, hk => (simp at hk; subst hk; simp at hne ⊢; try omega) | k + 3, hk => simp at hk) 1 (.int .i64 (v : Int))
            simp only [List.set_cons_zero, List.set_cons_succ, List.setIfInBounds_toArray] at HX
            replace HOWN := HOWN.off (p := ⟨g7, 1, none⟩) HLT.out (.int .i64 (v : Int))
            replace hBr : B ≤ (w5.setCell ⟨g7, 1, none⟩ (.int .i64 (v : Int))).heap.size := by simpa [World.setCell] using hBr
            generalize w5.setCell ⟨g7, 1, none⟩ (.int .i64 (v : Int)) = w6 at *
            have hc20 := HX.cell 2 0 rfl rfl
            have hc21 := HX.cell 2 1 rfl rfl
            try simp only [List.getElem_toArray, List.getElem_cons_zero, List.getElem_cons_succ] at hc20 hc21
            have hc10 := HX.cell 1 0 rfl rfl
            have hc11 := HX.cell 1 1 rfl rfl
            have hc12 := HX.cell 1 2 rfl rfl
            have hc13 := HX.cell 1 3 rfl rfl
            try simp only [List.getElem_toArray, List.getElem_cons_zero, List.getElem_cons_succ] at hc10 hc11 hc12 hc13
            go_wp2_with (at_builtin; refine wp_epush _ rfl _ _ rfl rfl rfl HOWN (by omega) hBr ?_)
            intro A9 c9 w7 HOWN2 hb7 hlt7
            replace HX := (BL.init (l := [(w.heap.size, #[.int .i64 0, .slice none 0 0, .int .i64 0, .int .i64 0], 26), (w.heap.size + 1, #[.int .i64 (n : Int), .slice A8 out.length c8, .int .i64 0, .int .i64 0], 26)]) HX).low hBw (by intro i q hq; match i, hq with | 0, hq => (simp at hq; subst hq; simp; try omega) | 1, hq => (simp at hq; subst hq; simp; try omega) | i + 2, hq => simp at hq) hb7
            clear hc20 hc21
            clear hc10 hc11 hc12 hc13
            clear HOWN hb7
            have hB7 : B ≤ w7.heap.size := by omega
            clear hlt7 hBr
            have hc11 := HX.cell 1 1 rfl rfl
            have hf11 := HX.free 1 1 rfl
            try simp only [List.getElem_toArray, List.getElem_cons_zero, List.getElem_cons_succ] at hc11 hf11
            have HI2b := HI2
            clear HI32 HK HI HV4 HLT
            go_wp2
            clear hc11 hf11
            replace HX := HX.set1 1 rfl (by omega) (by intro k q hk hne; match k, hk with | 0, hk => (simp at hk; subst hk; simp at hne ⊢; try omega) | 1, hk => (simp at hk; subst hk; simp at hne ⊢; try omega) | k + 2, hk => simp at hk) 1 (.slice A9 (out.length + 1) c9)
            simp only [List.set_cons_zero, List.set_cons_succ, List.setIfInBounds_toArray] at HX
            replace HOWN2 := HOWN2.far (p := ⟨w.heap.size + 1, 1, none⟩) (by show w.heap.size + 1 < B; omega) (.slice A9 (out.length + 1) c9)
            have hB8 : B ≤ (w7.setCell ⟨w.heap.size + 1, 1, none⟩ (.slice A9 (out.length + 1) c9)).heap.size := by simpa [World.setCell] using hB7
            go_roundg (40 - (out.length + 1))
            case measure => have := HLEN.out; omega
            case rel => exact ⟨A9, c9, out ++ [((k : Int), (v : Int))], R4, Lib.hid (by have := HLEN.out; simp; omega), rfl, hl4, HI2b, HOWN2, by rw [List.length_append]; exact HX, hB8⟩
        · have HEND : Hid (REnd S n out R) := Lib.hid fun id l0 f t hv he => rinv_end HI.out (.inr (by omega)) hv he
          subst hx
          clear hR1 hxr HI
          go_upto_region 15 with fail
          clear hc11
          by_cases hR2 : R.length < 2
          · obtain ⟨rfl, rfl, rfl, rfl, rfl⟩ := hP.out.bad (rend_short HEND.out hR2)
            clear HEND
            have hc00 := HX.cell 0 0 rfl rfl
            have hc01 := HX.cell 0 1 rfl rfl
            have hc02 := HX.cell 0 2 rfl rfl
            have hc03 := HX.cell 0 3 rfl rfl
            try simp only [List.getElem_toArray, List.getElem_cons_zero, List.getElem_cons_succ] at hc00 hc01 hc02 hc03
            have hf00 := HX.free 0 0 rfl
            have hf01 := HX.free 0 1 rfl
            have hf02 := HX.free 0 2 rfl
            have hf03 := HX.free 0 3 rfl
            try simp only [] at hf00 hf01 hf02 hf03
            go_wp2
            clear hc00 hf00 hc01 hf01 hc02 hf02 hc03 hf03
            replace HX := HX.put4 0 rfl (by omega) (by intro k q hk hne; match k, hk with | 0, hk => (simp at hk; subst hk; simp at hne ⊢; try omega) | 1, hk => (simp at hk; subst hk; simp at hne ⊢; try omega) | k + 2, hk => simp at hk) (.int .i64 0) (.slice none 0 0) (.int .i64 0) (.int .i64 0)
            simp only [List.set_cons_zero] at HX
            have hc00 := HX.cell 0 0 rfl rfl
            have hc01 := HX.cell 0 1 rfl rfl
            have hc02 := HX.cell 0 2 rfl rfl
            have hc03 := HX.cell 0 3 rfl rfl
            try simp only [List.getElem_toArray, List.getElem_cons_zero, List.getElem_cons_succ] at hc00 hc01 hc02 hc03
            exact bodyPost_ret (v := .tuple #[.agg #[.int .i64 0, .slice none 0 0, .int .i64 0, .int .i64 0], .int .i64 3]) (by simp [results, Tryz.results28, go_sem, hc00, hc01, hc02, hc03]) rfl ⟨_, _, rfl, Es.nil _ _, HX.below⟩
          · have hxd : (str R).extract 2 R.length = str (R.drop 2) := str_drop R 2
            have hld : (R.drop 2).length ≤ 1000000 := by rw [List.length_drop]; omega
            obtain ⟨fy, ty, Ey, hy⟩ := PY.ex (R.drop 2)
            have HPY := Lib.hid hy
            generalize hRd : R.drop 2 = R5 at *
            go_wp2_with fail
            refine (ryparse_any _ hld HPY).mono ?_
            rintro e w5 ⟨rfl, hb⟩
            replace HX := HX.ext hb
            replace HOWN := HOWN.ext hb
            replace hBr := Nat.le_trans hBr hb.size
            clear hb
            go_upto_region 18 with fail
            have hlt2 := HX.lt 1 rfl
            simp only [] at hlt2
            replace HOWN := HOWN.ext (below_alloc w5 (.cells #[.int .i64 fy, .int .i64 ty] 24))
            replace HX := HX.new #[.int .i64 fy, .int .i64 ty] 24
            simp only [List.cons_append, List.nil_append] at HX
            have hgB : B ≤ w5.heap.size := hBr
            clear hBr
            generalize w5.alloc (.cells #[.int .i64 fy, .int .i64 ty] 24) = W5 at *
            generalize w5.heap.size = g5 at *
            rcases hy with ⟨rfl, hyv, hyt⟩ | ⟨rfl, rfl, rfl, hbad⟩
            · have HYY : Hid (YV fy ty ∧ yearText fy ty = R.drop 2) := Lib.hid ⟨hyv, hyt.trans hRd.symm⟩
              clear hyv hyt HPY hRd
              have hc20 := HX.cell 2 0 rfl rfl
              have hc21 := HX.cell 2 1 rfl rfl
              try simp only [List.getElem_toArray, List.getElem_cons_zero, List.getElem_cons_succ] at hc20 hc21
              have hc12 := HX.cell 1 2 rfl rfl
              have hc13 := HX.cell 1 3 rfl rfl
              try simp only [List.getElem_toArray, List.getElem_cons_zero, List.getElem_cons_succ] at hc12 hc13
              have hf12 := HX.free 1 2 rfl
              have hf13 := HX.free 1 3 rfl
              try simp only [] at hf12 hf13
              go_upto_region 21 with fail
              clear hc20 hc21
              clear hc12 hf12 hc13 hf13
              replace HX := HX.set1 1 rfl (by omega) (by intro k q hk hne; match k, hk with | 0, hk => (simp at hk; subst hk; simp at hne ⊢; try omega) | 1, hk => (simp at hk; subst hk; simp at hne ⊢; try omega) | 2, hk => (simp at hk; subst hk; simp at hne ⊢; try omega) | k + 3, hk => simp at hk) 2 (.int .i64 fy)
              simp only [List.set_cons_zero, List.set_cons_succ, List.setIfInBounds_toArray] at HX
              replace HX := HX.set1 1 rfl (by omega) (by intro k q hk hne; match k, hk with | 0, hk => (simp at hk; subst hk; simp at hne ⊢; try omega) | 1, hk => (simp at hk; subst hk; simp at hne ⊢; try omega) | 2, hk => (simp at hk; subst hk; simp at hne ⊢; try omega) | k + 3, hk => simp at hk) 3 (.int .i64 ty)
              simp only [List.set_cons_zero, List.set_cons_succ, List.setIfInBounds_toArray] at HX
              replace HOWN := HOWN.far (p := ⟨w.heap.size + 1, 2, none⟩) (by show w.heap.size + 1 < B; omega) (.int .i64 fy)
              replace HOWN := HOWN.far (p := ⟨w.heap.size + 1, 3, none⟩) (by show w.heap.size + 1 < B; omega) (.int .i64 ty)
              generalize (W5.setCell ⟨w.heap.size + 1, 2, none⟩ (.int .i64 fy)).setCell ⟨w.heap.size + 1, 3, none⟩ (.int .i64 ty) = W6 at *
              obtain ⟨T, hT⟩ := PHT.ex n out fy ty
              have hc10 := HX.cell 1 0 rfl rfl
              have hc11 := HX.cell 1 1 rfl rfl
              have hc12 := HX.cell 1 2 rfl rfl
              have hc13 := HX.cell 1 3 rfl rfl
              try simp only [List.getElem_toArray, List.getElem_cons_zero, List.getElem_cons_succ] at hc10 hc11 hc12 hc13
              by_cases hv : HV n out fy ty
              · have HV1 := yes hv
                go_wp2_with fail
                refine (bhoard_any (b := true) A8 c8 out _ HOWN.es (by omega) HV1).mono ?_
                rintro e w6 ⟨rfl, hb⟩
                clear hc10 hc11 hc12 hc13
                replace HX := HX.ext hb
                replace HOWN := HOWN.ext hb
                clear hb
                have hc10 := HX.cell 1 0 rfl rfl
                have hc11 := HX.cell 1 1 rfl rfl
                have hc12 := HX.cell 1 2 rfl rfl
                have hc13 := HX.cell 1 3 rfl rfl
                try simp only [List.getElem_toArray, List.getElem_cons_zero, List.getElem_cons_succ] at hc10 hc11 hc12 hc13
                go_wp2_with fail
                refine (rtext32_any A8 c8 out _ HOWN.es (by omega) hT).mono ?_
                rintro e w7 ⟨rfl, hb⟩
                clear hc10 hc11 hc12 hc13
                replace HX := HX.ext hb
                replace HOWN := HOWN.ext hb
                clear hb
                have hc10 := HX.cell 1 0 rfl rfl
                have hc11 := HX.cell 1 1 rfl rfl
                have hc12 := HX.cell 1 2 rfl rfl
                have hc13 := HX.cell 1 3 rfl rfl
                try simp only [List.getElem_toArray, List.getElem_cons_zero, List.getElem_cons_succ] at hc10 hc11 hc12 hc13
                by_cases hTS : T = S
                · have hse : ((str T).toList == (str S).toList) = true := str_eq (beq_iff_eq.2 hTS)
                  rcases hT with ⟨_, hT⟩ | ⟨hnv, _⟩
                  · have hok := hP.out.ok hv (hT.trans hTS)
                    obtain ⟨rfl, rfl, rfl, rfl, rfl⟩ := hok
                    clear hv hT hTS hP HEND HYY
                    have hc00 := HX.cell 0 0 rfl rfl
                    have hc01 := HX.cell 0 1 rfl rfl
                    have hc02 := HX.cell 0 2 rfl rfl
                    have hc03 := HX.cell 0 3 rfl rfl
                    try simp only [List.getElem_toArray, List.getElem_cons_zero, List.getElem_cons_succ] at hc00 hc01 hc02 hc03
                    have hf00 := HX.free 0 0 rfl
                    have hf01 := HX.free 0 1 rfl
                    have hf02 := HX.free 0 2 rfl
                    have hf03 := HX.free 0 3 rfl
                    try simp only [] at hf00 hf01 hf02 hf03
                    go_wp2
                    clear hc00 hf00 hc01 hf01 hc02 hf02 hc03 hf03 hc10 hc11 hc12 hc13
                    replace HOWN := HOWN.far (p := ⟨w.heap.size, 0, none⟩) (by show w.heap.size < B; omega) (.int .i64 (n : Int))
                    replace HOWN := HOWN.far (p := ⟨w.heap.size, 1, none⟩) (by show w.heap.size < B; omega) (.slice A8 l.length c8)
                    replace HOWN := HOWN.far (p := ⟨w.heap.size, 2, none⟩) (by show w.heap.size < B; omega) (.int .i64 f)
                    replace HOWN := HOWN.far (p := ⟨w.heap.size, 3, none⟩) (by show w.heap.size < B; omega) (.int .i64 t)
                    replace HX := HX.put4 0 rfl (by omega) (by intro k q hk hne; match k, hk with | 0, hk => (simp at hk; subst hk; simp at hne ⊢; try omega) | 1, hk => (simp at hk; subst hk; simp at hne ⊢; try omega) | 2, hk => (simp at hk; subst hk; simp at hne ⊢; try omega) | k + 3, hk => simp at hk) (.int .i64 (n : Int)) (.slice A8 l.length c8) (.int .i64 f) (.int .i64 t)
                    simp only [List.set_cons_zero] at HX
                    have hc00 := HX.cell 0 0 rfl rfl
                    have hc01 := HX.cell 0 1 rfl rfl
                    have hc02 := HX.cell 0 2 rfl rfl
                    have hc03 := HX.cell 0 3 rfl rfl
                    try simp only [List.getElem_toArray, List.getElem_cons_zero, List.getElem_cons_succ] at hc00 hc01 hc02 hc03
                    exact bodyPost_ret (v := .tuple #[.agg #[.int .i64 (n : Int), .slice A8 l.length c8, .int .i64 f, .int .i64 t], .int .i64 0]) (by simp [results, Tryz.results28, go_sem, hc00, hc01, hc02, hc03]) rfl ⟨_, _, rfl, HOWN.es, HX.below⟩
                  · exact absurd hv hnv
                · have hse : ((str T).toList == (str S).toList) = false := str_eq (beq_eq_false_iff_ne.2 hTS)
                  have hno : ¬ (HV n out fy ty ∧ hoardText n out fy ty = S) := fun h => by
                    rcases hT with ⟨_, hT⟩ | ⟨hnv, _⟩
                    · exact hTS (hT.symm.trans h.2)
                    · exact hnv h.1
                  obtain ⟨rfl, rfl, rfl, rfl, rfl⟩ := hP.out.bad (rend_bad HEND.out HYY.out hno)
                  clear hT hTS hno hP HEND HYY hv
                  have hc00 := HX.cell 0 0 rfl rfl
                  have hc01 := HX.cell 0 1 rfl rfl
                  have hc02 := HX.cell 0 2 rfl rfl
                  have hc03 := HX.cell 0 3 rfl rfl
                  try simp only [List.getElem_toArray, List.getElem_cons_zero, List.getElem_cons_succ] at hc00 hc01 hc02 hc03
                  have hf00 := HX.free 0 0 rfl
                  have hf01 := HX.free 0 1 rfl
                  have hf02 := HX.free 0 2 rfl
                  have hf03 := HX.free 0 3 rfl
                  try simp only [] at hf00 hf01 hf02 hf03
                  go_wp2
                  clear hc00 hf00 hc01 hf01 hc02 hf02 hc03 hf03 hc10 hc11 hc12 hc13
                  replace HX := HX.put4 0 rfl (by omega) (by intro k q hk hne; match k, hk with | 0, hk => (simp at hk; subst hk; simp at hne ⊢; try omega) | 1, hk => (simp at hk; subst hk; simp at hne ⊢; try omega) | 2, hk => (simp at hk; subst hk; simp at hne ⊢; try omega) | k + 3, hk => simp at hk) (.int .i64 0) (.slice none 0 0) (.int .i64 0) (.int .i64 0)
                  simp only [List.set_cons_zero] at HX
                  have hc00 := HX.cell 0 0 rfl rfl
                  have hc01 := HX.cell 0 1 rfl rfl
                  have hc02 := HX.cell 0 2 rfl rfl
                  have hc03 := HX.cell 0 3 rfl rfl
                  try simp only [List.getElem_toArray, List.getElem_cons_zero, List.getElem_cons_succ] at hc00 hc01 hc02 hc03
                  exact bodyPost_ret (v := .tuple #[.agg #[.int .i64 0, .slice none 0 0, .int .i64 0, .int .i64 0], .int .i64 3]) (by simp [results, Tryz.results28, go_sem, hc00, hc01, hc02, hc03]) rfl ⟨_, _, rfl, Es.nil _ _, HX.below⟩
              · have HV1 := no hv
                obtain ⟨rfl, rfl, rfl, rfl, rfl⟩ := hP.out.bad (rend_bad HEND.out HYY.out (fun h => hv h.1))
                clear hv hT HEND HYY
                go_wp2_with fail
                refine (bhoard_any (b := false) A8 c8 out _ HOWN.es (by omega) HV1).mono ?_
                rintro e w6 ⟨rfl, hb⟩
                clear hc10 hc11 hc12 hc13
                replace HX := HX.ext hb
                replace HOWN := HOWN.ext hb
                clear hb
                have hc10 := HX.cell 1 0 rfl rfl
                have hc11 := HX.cell 1 1 rfl rfl
                have hc12 := HX.cell 1 2 rfl rfl
                have hc13 := HX.cell 1 3 rfl rfl
                try simp only [List.getElem_toArray, List.getElem_cons_zero, List.getElem_cons_succ] at hc10 hc11 hc12 hc13
                have hc00 := HX.cell 0 0 rfl rfl
                have hc01 := HX.cell 0 1 rfl rfl
                have hc02 := HX.cell 0 2 rfl rfl
                have hc03 := HX.cell 0 3 rfl rfl
                try simp only [List.getElem_toArray, List.getElem_cons_zero, List.getElem_cons_succ] at hc00 hc01 hc02 hc03
                have hf00 := HX.free 0 0 rfl
                have hf01 := HX.free 0 1 rfl
                have hf02 := HX.free 0 2 rfl
                have hf03 := HX.free 0 3 rfl
                try simp only [] at hf00 hf01 hf02 hf03
                go_wp2
                clear hc00 hf00 hc01 hf01 hc02 hf02 hc03 hf03 hc10 hc11 hc12 hc13
                replace HX := HX.put4 0 rfl (by omega) (by intro k q hk hne; match k, hk with | 0, hk => (simp at hk; subst hk; simp at hne ⊢; try omega) | 1, hk => (simp at hk; subst hk; simp at hne ⊢; try omega) | 2, hk => (simp at hk; subst hk; simp at hne ⊢; try omega) | k + 3, hk => simp at hk) (.int .i64 0) (.slice none 0 0) (.int .i64 0) (.int .i64 0)
                simp only [List.set_cons_zero] at HX
                have hc00 := HX.cell 0 0 rfl rfl
                have hc01 := HX.cell 0 1 rfl rfl
                have hc02 := HX.cell 0 2 rfl rfl
                have hc03 := HX.cell 0 3 rfl rfl
                try simp only [List.getElem_toArray, List.getElem_cons_zero, List.getElem_cons_succ] at hc00 hc01 hc02 hc03
                exact bodyPost_ret (v := .tuple #[.agg #[.int .i64 0, .slice none 0 0, .int .i64 0, .int .i64 0], .int .i64 3]) (by simp [results, Tryz.results28, go_sem, hc00, hc01, hc02, hc03]) rfl ⟨_, _, rfl, Es.nil _ _, HX.below⟩
            · obtain ⟨rfl, rfl, rfl, rfl, rfl⟩ := hP.out.bad (rend_years HEND.out (by rw [hRd]; exact hbad))
              clear HEND hbad HPY hRd
              have hc00 := HX.cell 0 0 rfl rfl
              have hc01 := HX.cell 0 1 rfl rfl
              have hc02 := HX.cell 0 2 rfl rfl
              have hc03 := HX.cell 0 3 rfl rfl
              try simp only [List.getElem_toArray, List.getElem_cons_zero, List.getElem_cons_succ] at hc00 hc01 hc02 hc03
              have hf00 := HX.free 0 0 rfl
              have hf01 := HX.free 0 1 rfl
              have hf02 := HX.free 0 2 rfl
              have hf03 := HX.free 0 3 rfl
              try simp only [] at hf00 hf01 hf02 hf03
              go_wp2
              clear hc00 hf00 hc01 hf01 hc02 hf02 hc03 hf03
              replace HX := HX.put4 0 rfl (by omega) (by intro k q hk hne; match k, hk with | 0, hk => (simp at hk; subst hk; simp at hne ⊢; try omega) | 1, hk => (simp at hk; subst hk; simp at hne ⊢; try omega) | 2, hk => (simp at hk; subst hk; simp at hne ⊢; try omega) | k + 3, hk => simp at hk) (.int .i64 0) (.slice none 0 0) (.int .i64 0) (.int .i64 0)
              simp only [List.set_cons_zero] at HX
              have hc00 := HX.cell 0 0 rfl rfl
              have hc01 := HX.cell 0 1 rfl rfl
              have hc02 := HX.cell 0 2 rfl rfl
              have hc03 := HX.cell 0 3 rfl rfl
              try simp only [List.getElem_toArray, List.getElem_cons_zero, List.getElem_cons_succ] at hc00 hc01 hc02 hc03
              exact bodyPost_ret (v := .tuple #[.agg #[.int .i64 0, .slice none 0 0, .int .i64 0, .int .i64 0], .int .i64 3]) (by simp [results, Tryz.results28, go_sem, hc00, hc01, hc02, hc03]) rfl ⟨_, _, rfl, Es.nil _ _, HX.below⟩
      · have HEND : Hid (REnd S n out R) := Lib.hid fun id l0 f t hv he => rinv_end HI.out (.inl (by rw [hR1]; simpa using hx)) hv he
        have hx2 : ¬ x0.toNat = 32 := fun h => hx (UInt8.toNat_inj.1 h)
        have hx3 : ((x0.toNat : Int) == 32) = false := by rw [beq_eq_false_iff_ne]; omega
        clear hR1 hxr HI hx
        go_upto_region 15 with fail
        clear hc11
        by_cases hR2 : R.length < 2
        · obtain ⟨rfl, rfl, rfl, rfl, rfl⟩ := hP.out.bad (rend_short HEND.out hR2)
          clear HEND
          have hc00 := HX.cell 0 0 rfl rfl
          have hc01 := HX.cell 0 1 rfl rfl
          have hc02 := HX.cell 0 2 rfl rfl
          have hc03 := HX.cell 0 3 rfl rfl
          try simp only [List.getElem_toArray, List.getElem_cons_zero, List.getElem_cons_succ] at hc00 hc01 hc02 hc03
          have hf00 := HX.free 0 0 rfl
          have hf01 := HX.free 0 1 rfl
          have hf02 := HX.free 0 2 rfl
          have hf03 := HX.free 0 3 rfl
          try simp only [] at hf00 hf01 hf02 hf03
          go_wp2
          clear hc00 hf00 hc01 hf01 hc02 hf02 hc03 hf03
          replace HX := HX.put4 0 rfl (by omega) (by intro k q hk hne; match k, hk with | 0, hk => (simp at hk; subst hk; simp at hne ⊢; try omega) | 1, hk => (simp at hk; subst hk; simp at hne ⊢; try omega) | k + 2, hk => simp at hk) (.int .i64 0) (.slice none 0 0) (.int .i64 0) (.int .i64 0)
          simp only [List.set_cons_zero] at HX
          have hc00 := HX.cell 0 0 rfl rfl
          have hc01 := HX.cell 0 1 rfl rfl
          have hc02 := HX.cell 0 2 rfl rfl
          have hc03 := HX.cell 0 3 rfl rfl
          try simp only [List.getElem_toArray, List.getElem_cons_zero, List.getElem_cons_succ] at hc00 hc01 hc02 hc03
          exact bodyPost_ret (v := .tuple #[.agg #[.int .i64 0, .slice none 0 0, .int .i64 0, .int .i64 0], .int .i64 3]) (by simp [results, Tryz.results28, go_sem, hc00, hc01, hc02, hc03]) rfl ⟨_, _, rfl, Es.nil _ _, HX.below⟩
        · have hxd : (str R).extract 2 R.length = str (R.drop 2) := str_drop R 2
          have hld : (R.drop 2).length ≤ 1000000 := by rw [List.length_drop]; omega
          obtain ⟨fy, ty, Ey, hy⟩ := PY.ex (R.drop 2)
          have HPY := Lib.hid hy
          generalize hRd : R.drop 2 = R5 at *
          go_wp2_with fail
          refine (ryparse_any _ hld HPY).mono ?_
          rintro e w5 ⟨rfl, hb⟩
          replace HX := HX.ext hb
          replace HOWN := HOWN.ext hb
          replace hBr := Nat.le_trans hBr hb.size
          clear hb
          go_upto_region 18 with fail
          have hlt2 := HX.lt 1 rfl
          simp only [] at hlt2
          replace HOWN := HOWN.ext (below_alloc w5 (.cells #[.int .i64 fy, .int .i64 ty] 24))
          replace HX := HX.new #[.int .i64 fy, .int .i64 ty] 24
          simp only [List.cons_append, List.nil_append] at HX
          have hgB : B ≤ w5.heap.size := hBr
          clear hBr
          generalize w5.alloc (.cells #[.int .i64 fy, .int .i64 ty] 24) = W5 at *
          generalize w5.heap.size = g5 at *
          rcases hy with ⟨rfl, hyv, hyt⟩ | ⟨rfl, rfl, rfl, hbad⟩
          · have HYY : Hid (YV fy ty ∧ yearText fy ty = R.drop 2) := Lib.hid ⟨hyv, hyt.trans hRd.symm⟩
            clear hyv hyt HPY hRd
            have hc20 := HX.cell 2 0 rfl rfl
            have hc21 := HX.cell 2 1 rfl rfl
            try simp only [List.getElem_toArray, List.getElem_cons_zero, List.getElem_cons_succ] at hc20 hc21
            have hc12 := HX.cell 1 2 rfl rfl
            have hc13 := HX.cell 1 3 rfl rfl
            try simp only [List.getElem_toArray, List.getElem_cons_zero, List.getElem_cons_succ] at hc12 hc13
            have hf12 := HX.free 1 2 rfl
            have hf13 := HX.free 1 3 rfl
            try simp only [] at hf12 hf13
            go_upto_region 21 with fail
            clear hc20 hc21
            clear hc12 hf12 hc13 hf13
            replace HX := HX.set1 1 rfl (by omega) (by intro k q hk hne; match k, hk with | 0, hk => (simp at hk; subst hk; simp at hne ⊢; try omega) | 1, hk => (simp at hk; subst hk; simp at hne ⊢; try omega) | 2, hk => (simp at hk; subst hk; simp at hne ⊢; try omega) | k + 3, hk => simp at hk) 2 (.int .i64 fy)
            simp only [List.set_cons_zero, List.set_cons_succ, List.setIfInBounds_toArray] at HX
            replace HX := HX.set1 1 rfl (by omega) (by intro k q hk hne; match k, hk with | 0, hk => (simp at hk; subst hk; simp at hne ⊢; try omega) | 1, hk => (simp at hk; subst hk; simp at hne ⊢; try omega) | 2, hk => (simp at hk; subst hk; simp at hne ⊢; try omega) | k + 3, hk => simp at hk) 3 (.int .i64 ty)
            simp only [List.set_cons_zero, List.set_cons_succ, List.setIfInBounds_toArray] at HX
            replace HOWN := HOWN.far (p := ⟨w.heap.size + 1, 2, none⟩) (by show w.heap.size + 1 < B; omega) (.int .i64 fy)
            replace HOWN := HOWN.far (p := ⟨w.heap.size + 1, 3, none⟩) (by show w.heap.size + 1 < B; omega) (.int .i64 ty)
            generalize (W5.setCell ⟨w.heap.size + 1, 2, none⟩ (.int .i64 fy)).setCell ⟨w.heap.size + 1, 3, none⟩ (.int .i64 ty) = W6 at *
            obtain ⟨T, hT⟩ := PHT.ex n out fy ty
            have hc10 := HX.cell 1 0 rfl rfl
            have hc11 := HX.cell 1 1 rfl rfl
            have hc12 := HX.cell 1 2 rfl rfl
            have hc13 := HX.cell 1 3 rfl rfl
            try simp only [List.getElem_toArray, List.getElem_cons_zero, List.getElem_cons_succ] at hc10 hc11 hc12 hc13
            by_cases hv : HV n out fy ty
            · have HV1 := yes hv
              go_wp2_with fail
              refine (bhoard_any (b := true) A8 c8 out _ HOWN.es (by omega) HV1).mono ?_
              rintro e w6 ⟨rfl, hb⟩
              clear hc10 hc11 hc12 hc13
              replace HX := HX.ext hb
              replace HOWN := HOWN.ext hb
              clear hb
              have hc10 := HX.cell 1 0 rfl rfl
              have hc11 := HX.cell 1 1 rfl rfl
              have hc12 := HX.cell 1 2 rfl rfl
              have hc13 := HX.cell 1 3 rfl rfl
              try simp only [List.getElem_toArray, List.getElem_cons_zero, List.getElem_cons_succ] at hc10 hc11 hc12 hc13
              go_wp2_with fail
              refine (rtext32_any A8 c8 out _ HOWN.es (by omega) hT).mono ?_
              rintro e w7 ⟨rfl, hb⟩
              clear hc10 hc11 hc12 hc13
              replace HX := HX.ext hb
              replace HOWN := HOWN.ext hb
              clear hb
              have hc10 := HX.cell 1 0 rfl rfl
              have hc11 := HX.cell 1 1 rfl rfl
              have hc12 := HX.cell 1 2 rfl rfl
              have hc13 := HX.cell 1 3 rfl rfl
              try simp only [List.getElem_toArray, List.getElem_cons_zero, List.getElem_cons_succ] at hc10 hc11 hc12 hc13
              by_cases hTS : T = S
              · have hse : ((str T).toList == (str S).toList) = true := str_eq (beq_iff_eq.2 hTS)
                rcases hT with ⟨_, hT⟩ | ⟨hnv, _⟩
                · have hok := hP.out.ok hv (hT.trans hTS)
                  obtain ⟨rfl, rfl, rfl, rfl, rfl⟩ := hok
                  clear hv hT hTS hP HEND HYY
                  have hc00 := HX.cell 0 0 rfl rfl
                  have hc01 := HX.cell 0 1 rfl rfl
                  have hc02 := HX.cell 0 2 rfl rfl
                  have hc03 := HX.cell 0 3 rfl rfl
                  try simp only [List.getElem_toArray, List.getElem_cons_zero, List.getElem_cons_succ] at hc00 hc01 hc02 hc03
                  have hf00 := HX.free 0 0 rfl
                  have hf01 := HX.free 0 1 rfl
                  have hf02 := HX.free 0 2 rfl
                  have hf03 := HX.free 0 3 rfl
                  try simp only [] at hf00 hf01 hf02 hf03
                  go_wp2
                  clear hc00 hf00 hc01 hf01 hc02 hf02 hc03 hf03 hc10 hc11 hc12 hc13
                  replace HOWN := HOWN.far (p := ⟨w.heap.size, 0, none⟩) (by show w.heap.size < B; omega) (.int .i64 (n : Int))
                  replace HOWN := HOWN.far (p := ⟨w.heap.size, 1, none⟩) (by show w.heap.size < B; omega) (.slice A8 l.length c8)
                  replace HOWN := HOWN.far (p := ⟨w.heap.size, 2, none⟩) (by show w.heap.size < B; omega) (.int .i64 f)
                  replace HOWN := HOWN.far (p := ⟨w.heap.size, 3, none⟩) (by show w.heap.size < B; omega) (.int .i64 t)
                  replace HX := HX.put4 0 rfl (by omega) (by intro k q hk hne; match k, hk with | 0, hk => (simp at hk; subst hk; simp at hne ⊢; try omega) | 1, hk => (simp at hk; subst hk; simp at hne ⊢; try omega) | 2, hk => (simp at hk; subst hk; simp at hne ⊢; try omega) | k + 3, hk => simp at hk) (.int .i64 (n : Int)) (.slice A8 l.length c8) (.int .i64 f) (.int .i64 t)
                  simp only [List.set_cons_zero] at HX
                  have hc00 := HX.cell 0 0 rfl rfl
                  have hc01 := HX.cell 0 1 rfl rfl
                  have hc02 := HX.cell 0 2 rfl rfl
                  have hc03 := HX.cell 0 3 rfl rfl
                  try simp only [List.getElem_toArray, List.getElem_cons_zero, List.getElem_cons_succ] at hc00 hc01 hc02 hc03
                  exact bodyPost_ret (v := .tuple #[.agg #[.int .i64 (n : Int), .slice A8 l.length c8, .int .i64 f, .int .i64 t], .int .i64 0]) (by simp [results, Tryz.results28, go_sem, hc00, hc01, hc02, hc03]) rfl ⟨_, _, rfl, HOWN.es, HX.below⟩
                · exact absurd hv hnv
              · have hse : ((str T).toList == (str S).toList) = false := str_eq (beq_eq_false_iff_ne.2 hTS)
                have hno : ¬ (HV n out fy ty ∧ hoardText n out fy ty = S) := fun h => by
                  rcases hT with ⟨_, hT⟩ | ⟨hnv, _⟩
                  · exact hTS (hT.symm.trans h.2)
                  · exact hnv h.1
                obtain ⟨rfl, rfl, rfl, rfl, rfl⟩ := hP.out.bad (rend_bad HEND.out HYY.out hno)
                clear hT hTS hno hP HEND HYY hv
                have hc00 := HX.cell 0 0 rfl rfl
                have hc01 := HX.cell 0 1 rfl rfl
                have hc02 := HX.cell 0 2 rfl rfl
                have hc03 := HX.cell 0 3 rfl rfl
                try simp only [List.getElem_toArray, List.getElem_cons_zero, List.getElem_cons_succ] at hc00 hc01 hc02 hc03
                have hf00 := HX.free 0 0 rfl
                have hf01 := HX.free 0 1 rfl
                have hf02 := HX.free 0 2 rfl
                have hf03 := HX.free 0 3 rfl
                try simp only [] at hf00 hf01 hf02 hf03
                go_wp2
                clear hc00 hf00 hc01 hf01 hc02 hf02 hc03 hf03 hc10 hc11 hc12 hc13
                replace HX := HX.put4 0 rfl (by omega) (by intro k q hk hne; match k, hk with | 0, hk => (simp at hk; subst hk; simp at hne ⊢; try omega) | 1, hk => (simp at hk; subst hk; simp at hne ⊢; try omega) | 2, hk => (simp at hk; subst hk; simp at hne ⊢; try omega) | k + 3, hk => simp at hk) (.int .i64 0) (.slice none 0 0) (.int .i64 0) (.int .i64 0)
                simp only [List.set_cons_zero] at HX
                have hc00 := HX.cell 0 0 rfl rfl
                have hc01 := HX.cell 0 1 rfl rfl
                have hc02 := HX.cell 0 2 rfl rfl
                have hc03 := HX.cell 0 3 rfl rfl
                try simp only [List.getElem_toArray, List.getElem_cons_zero, List.getElem_cons_succ] at hc00 hc01 hc02 hc03
                exact bodyPost_ret (v := .tuple #[.agg #[.int .i64 0, .slice none 0 0, .int .i64 0, .int .i64 0], .int .i64 3]) (by simp [results, Tryz.results28, go_sem, hc00, hc01, hc02, hc03]) rfl ⟨_, _, rfl, Es.nil _ _, HX.below⟩
            · have HV1 := no hv
              obtain ⟨rfl, rfl, rfl, rfl, rfl⟩ := hP.out.bad (rend_bad HEND.out HYY.out (fun h => hv h.1))
              clear hv hT HEND HYY
              go_wp2_with fail
              refine (bhoard_any (b := false) A8 c8 out _ HOWN.es (by omega) HV1).mono ?_
              rintro e w6 ⟨rfl, hb⟩
              clear hc10 hc11 hc12 hc13
              replace HX := HX.ext hb
              replace HOWN := HOWN.ext hb
              clear hb
              have hc10 := HX.cell 1 0 rfl rfl
              have hc11 := HX.cell 1 1 rfl rfl
              have hc12 := HX.cell 1 2 rfl rfl
              have hc13 := HX.cell 1 3 rfl rfl
              try simp only [List.getElem_toArray, List.getElem_cons_zero, List.getElem_cons_succ] at hc10 hc11 hc12 hc13
              have hc00 := HX.cell 0 0 rfl rfl
              have hc01 := HX.cell 0 1 rfl rfl
              have hc02 := HX.cell 0 2 rfl rfl
              have hc03 := HX.cell 0 3 rfl rfl
              try simp only [List.getElem_toArray, List.getElem_cons_zero, List.getElem_cons_succ] at hc00 hc01 hc02 hc03
              have hf00 := HX.free 0 0 rfl
              have hf01 := HX.free 0 1 rfl
              have hf02 := HX.free 0 2 rfl
              have hf03 := HX.free 0 3 rfl
              try simp only [] at hf00 hf01 hf02 hf03
              go_wp2
              clear hc00 hf00 hc01 hf01 hc02 hf02 hc03 hf03 hc10 hc11 hc12 hc13
              replace HX := HX.put4 0 rfl (by omega) (by intro k q hk hne; match k, hk with | 0, hk => (simp at hk; subst hk; simp at hne ⊢; try omega) | 1, hk => (simp at hk; subst hk; simp at hne ⊢; try omega) | 2, hk => (simp at hk; subst hk; simp at hne ⊢; try omega) | k + 3, hk => simp at hk) (.int .i64 0) (.slice none 0 0) (.int .i64 0) (.int .i64 0)
              simp only [List.set_cons_zero] at HX
              have hc00 := HX.cell 0 0 rfl rfl
              have hc01 := HX.cell 0 1 rfl rfl
              have hc02 := HX.cell 0 2 rfl rfl
              have hc03 := HX.cell 0 3 rfl rfl
              try simp only [List.getElem_toArray, List.getElem_cons_zero, List.getElem_cons_succ] at hc00 hc01 hc02 hc03
              exact bodyPost_ret (v := .tuple #[.agg #[.int .i64 0, .slice none 0 0, .int .i64 0, .int .i64 0], .int .i64 3]) (by simp [results, Tryz.results28, go_sem, hc00, hc01, hc02, hc03]) rfl ⟨_, _, rfl, Es.nil _ _, HX.below⟩
          · obtain ⟨rfl, rfl, rfl, rfl, rfl⟩ := hP.out.bad (rend_years HEND.out (by rw [hRd]; exact hbad))
            clear HEND hbad HPY hRd
            have hc00 := HX.cell 0 0 rfl rfl
            have hc01 := HX.cell 0 1 rfl rfl
            have hc02 := HX.cell 0 2 rfl rfl
            have hc03 := HX.cell 0 3 rfl rfl
            try simp only [List.getElem_toArray, List.getElem_cons_zero, List.getElem_cons_succ] at hc00 hc01 hc02 hc03
            have hf00 := HX.free 0 0 rfl
            have hf01 := HX.free 0 1 rfl
            have hf02 := HX.free 0 2 rfl
            have hf03 := HX.free 0 3 rfl
            try simp only [] at hf00 hf01 hf02 hf03
            go_wp2
            clear hc00 hf00 hc01 hf01 hc02 hf02 hc03 hf03
            replace HX := HX.put4 0 rfl (by omega) (by intro k q hk hne; match k, hk with | 0, hk => (simp at hk; subst hk; simp at hne ⊢; try omega) | 1, hk => (simp at hk; subst hk; simp at hne ⊢; try omega) | 2, hk => (simp at hk; subst hk; simp at hne ⊢; try omega) | k + 3, hk => simp at hk) (.int .i64 0) (.slice none 0 0) (.int .i64 0) (.int .i64 0)
            simp only [List.set_cons_zero] at HX
            have hc00 := HX.cell 0 0 rfl rfl
            have hc01 := HX.cell 0 1 rfl rfl
            have hc02 := HX.cell 0 2 rfl rfl
            have hc03 := HX.cell 0 3 rfl rfl
            try simp only [List.getElem_toArray, List.getElem_cons_zero, List.getElem_cons_succ] at hc00 hc01 hc02 hc03
            exact bodyPost_ret (v := .tuple #[.agg #[.int .i64 0, .slice none 0 0, .int .i64 0, .int .i64 0], .int .i64 3]) (by simp [results, Tryz.results28, go_sem, hc00, hc01, hc02, hc03]) rfl ⟨_, _, rfl, Es.nil _ _, HX.below⟩
    · have HEND : Hid (REnd S n out R) := Lib.hid fun id l0 f t hv he => rinv_end HI.out (.inl (by rw [List.eq_nil_of_length_eq_zero (show R.length = 0 by omega)]; simp)) hv he
      obtain ⟨rfl, rfl, rfl, rfl, rfl⟩ := hP.out.bad (rend_short HEND.out (by omega))
      clear HEND HI
      go_upto_region 15 with fail
      clear hc11
      have hc00 := HX.cell 0 0 rfl rfl
      have hc01 := HX.cell 0 1 rfl rfl
      have hc02 := HX.cell 0 2 rfl rfl
      have hc03 := HX.cell 0 3 rfl rfl
      try simp only [List.getElem_toArray, List.getElem_cons_zero, List.getElem_cons_succ] at hc00 hc01 hc02 hc03
      have hf00 := HX.free 0 0 rfl
      have hf01 := HX.free 0 1 rfl
      have hf02 := HX.free 0 2 rfl
      have hf03 := HX.free 0 3 rfl
      try simp only [] at hf00 hf01 hf02 hf03
      go_wp2
      clear hc00 hf00 hc01 hf01 hc02 hf02 hc03 hf03
      replace HX := HX.put4 0 rfl (by omega) (by intro k q hk hne; match k, hk with | 0, hk => (simp at hk; subst hk; simp at hne ⊢; try omega) | 1, hk => (simp at hk; subst hk; simp at hne ⊢; try omega) | k + 2, hk => simp at hk) (.int .i64 0) (.slice none 0 0) (.int .i64 0) (.int .i64 0)
      simp only [List.set_cons_zero] at HX
      have hc00 := HX.cell 0 0 rfl rfl
      have hc01 := HX.cell 0 1 rfl rfl
      have hc02 := HX.cell 0 2 rfl rfl
      have hc03 := HX.cell 0 3 rfl rfl
      try simp only [List.getElem_toArray, List.getElem_cons_zero, List.getElem_cons_succ] at hc00 hc01 hc02 hc03
      exact bodyPost_ret (v := .tuple #[.agg #[.int .i64 0, .slice none 0 0, .int .i64 0, .int .i64 0], .int .i64 3]) (by simp [results, Tryz.results28, go_sem, hc00, hc01, hc02, hc03]) rfl ⟨_, _, rfl, Es.nil _ _, HX.below⟩
set_option maxRecDepth 100000 in
theorem rhparse_any {S : List UInt8} {id f t E : Int} {l : List (Int × Int)} (w : World) (hl : S.length ≤ 100000) (hP : Hid (PH S id l f t E)) :
    Calls Tryz.prog 28 #[.string (str S)] w (RetM w id l f t E) := by
  have hsS : (str S).size = S.length := str_size S
  by_cases h2 : 2 ≤ S.length
  · obtain ⟨n, R0, hn⟩ : ∃ n R, numK 3 (S.drop 1) 0 = (n, R) := ⟨_, _, rfl⟩
    have hl1 : (S.drop 1).length ≤ 100000 := by rw [List.length_drop]; omega
    have hl0 : R0.length ≤ 100000 := by have := numK_len 3 (S.drop 1) 0; rw [hn] at this; exact Nat.le_trans this hl1
    have hnb : n < 1000 := by have := numK_lt 3 (S.drop 1) 0; rw [hn] at this; simpa using this
    have hI := rinv_start h2 rfl hn
    by_cases h0 : 0 < R0.length
    · exact rhp_a w hl h2 hP hsS (str_drop S 1) hl1 (Lib.hid hn) hnb hl0 (str_size R0) (Lib.hid hI) h0 (str_drop R0 1)
    · have hnil : R0 = [] := List.eq_nil_of_length_eq_zero (by omega)
      exact rhp_b w hl h2 hP hsS (str_drop S 1) hl1 (Lib.hid hn) hnb hl0 (str_size R0) (Lib.hid hI) (by omega) (by rw [hnil]; rfl)
  · have hno : NoH S := fun id l f t hv he => by
      rw [← he] at h2
      simp [hoardText, headText] at h2
    obtain ⟨rfl, rfl, rfl, rfl, rfl⟩ := hP.out.bad hno
    clear hno
    go_enter Tryz.func28, Tryz.ntmps28
    go_upto_region 1 with fail
    have HX := BL.one w #[.int .i64 0, .slice none 0 0, .int .i64 0, .int .i64 0] 26
    generalize w.alloc (.cells #[.int .i64 0, .slice none 0 0, .int .i64 0, .int .i64 0] 26) = W1 at *
    have hc00 := HX.cell 0 0 rfl rfl
    have hc01 := HX.cell 0 1 rfl rfl
    have hc02 := HX.cell 0 2 rfl rfl
    have hc03 := HX.cell 0 3 rfl rfl
    try simp only [List.getElem_toArray, List.getElem_cons_zero, List.getElem_cons_succ] at hc00 hc01 hc02 hc03
    have hf00 := HX.free 0 0 rfl
    have hf01 := HX.free 0 1 rfl
    have hf02 := HX.free 0 2 rfl
    have hf03 := HX.free 0 3 rfl
    try simp only [] at hf00 hf01 hf02 hf03
    go_wp2
    clear hc00 hf00 hc01 hf01 hc02 hf02 hc03 hf03
    replace HX := HX.put4 0 rfl (by omega) (by intro k q hk hne; match k, hk with | 0, hk => (simp at hk; subst hk; simp at hne ⊢; try omega) | k + 1, hk => simp at hk) (.int .i64 0) (.slice none 0 0) (.int .i64 0) (.int .i64 0)
    simp only [List.set_cons_zero] at HX
    have hc00 := HX.cell 0 0 rfl rfl
    have hc01 := HX.cell 0 1 rfl rfl
    have hc02 := HX.cell 0 2 rfl rfl
    have hc03 := HX.cell 0 3 rfl rfl
    try simp only [List.getElem_toArray, List.getElem_cons_zero, List.getElem_cons_succ] at hc00 hc01 hc02 hc03
    exact bodyPost_ret (v := .tuple #[.agg #[.int .i64 0, .slice none 0 0, .int .i64 0, .int .i64 0], .int .i64 3]) (by simp [results, Tryz.results28, go_sem, hc00, hc01, hc02, hc03]) rfl ⟨_, _, rfl, Es.nil _ _, HX.below⟩
end Go.Proofs.YteleohgalknkiaaGreatDoor
