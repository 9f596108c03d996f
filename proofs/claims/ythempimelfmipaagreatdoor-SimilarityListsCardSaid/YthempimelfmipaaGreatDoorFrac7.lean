/- The package fraction, seventh part: Text. -/
import Derived.Test.YthempimelfmipaaGreatDoorFrac6
import Derived.Test.YthempimelfmipaaGreatDoorText3
namespace Go.Proofs.YthempimelfmipaaGreatDoor
open Go.RowKit Go.Proofs Go

/-- the text of a number -/
def fracText (q : Rat) : List UInt8 := (if sg q then [45] else []) ++ Lib.decDigits (nu q) ++ (if q.den = 1 then [] else 47 :: Lib.decDigits q.den)

set_option maxHeartbeats 800000 in
set_option maxRecDepth 100000 in
theorem ftext_any {s : Bool} {A B : Option Addr} {n c m d : Nat} {q : Rat} {k : Nat} (w : World) (h : Fr w s A n c B m d q k) (hk : k ≤ 134217726) (hT : Tab w) :
    Calls Tryz.prog 40 #[.agg #[.bool s, .slice A n c, .slice B m d]] w fun e w' => e = .returned (.string (str (fracText q))) ∧ Below w.heap.size w w' := by
  have hsz := h.sz
  have hsz1 := hsz.1
  have hsz2 := hsz.2
  obtain ⟨D, hD⟩ : ∃ D, q.den = D := ⟨_, rfl⟩
  have hft : fracText q = (if sg q then [45] else []) ++ Lib.decDigits (nu q) ++ (if D = 1 then [] else 47 :: Lib.decDigits D) := by rw [fracText, hD]
  have HFT := Lib.hid hft
  have HD := Lib.hid hD
  rw [hD] at hsz2
  clear hD hft
  go_enter Tryz.func40, Tryz.ntmps40
  go_wp2_with fail
  have HX := Bx.one w #[.bool s, .slice A n c, .slice B m d] 33
  have hc00 := HX.cell0 0 rfl rfl
  have hc01 := HX.cell0 1 rfl rfl
  have hc02 := HX.cell0 2 rfl rfl
  refine (fnorm_any _ (h.ext HX.below) (by omega)).mono ?_
  rintro e w1 ⟨A1, c1, B1, d1, rfl, H1, H2, hb1⟩
  rw [HD.out] at H2
  rw [HD.out]
  clear hc00 hc01 hc02
  have HX1 := HX.ext hb1
  have hc00 := HX1.cell0 0 rfl rfl
  have hc01 := HX1.cell0 1 rfl rfl
  have hc02 := HX1.cell0 2 rfl rfl
  have hf00 := HX1.free0 0 rfl
  have hf01 := HX1.free0 1 rfl
  have hf02 := HX1.free0 2 rfl
  go_upto_region 2 with fail
  have HX2 := HX1.put3 0 rfl (.bool (sg q)) (.slice A1 (dig (nu q)).length c1) (.slice B1 (dig D).length d1)
  have hk2 := HX1.put3_keep 0 rfl rfl rfl rfl (.bool (sg q)) (.slice A1 (dig (nu q)).length c1) (.slice B1 (dig D).length d1)
  obtain ⟨W2, hW2⟩ : ∃ W2, W2 = ((w1.setCell ⟨w.heap.size, 0, none⟩ (.bool (sg q))).setCell ⟨w.heap.size, 1, none⟩ (.slice A1 (dig (nu q)).length c1)).setCell ⟨w.heap.size, 2, none⟩ (.slice B1 (dig D).length d1) := ⟨_, rfl⟩
  simp only [Nat.add_zero] at HX2 hk2
  rw [← hW2] at HX2 hk2
  rw [← hW2]
  clear hW2 hc00 hc01 hc02 hf00 hf01 hf02
  have H1 := H1.stay hk2
  have H2 := H2.stay hk2
  clear hk2
  have hc01 := HX2.cell0 1 rfl rfl
  go_wp2_with fail
  refine (ntext_any A1 _ c1 (dig (nu q)) _ H1 rfl (by omega) (hT.ext HX2.below)).mono ?_
  rw [val_dig]
  rintro e w3 ⟨rfl, hb3⟩
  have HX3 := HX2.ext hb3
  have H2 := H2.ext hb3
  clear hc01
  have hc00 := HX3.cell0 0 rfl rfl
  have hc02 := HX3.cell0 2 rfl rfl
  generalize nu q = N at *
  generalize sg q = σ at *
  have h45 : (⟨#[45]⟩ : ByteArray) ++ str (Lib.decDigits N) = str (45 :: Lib.decDigits N) := str_append [45] _
  have h47 : (⟨#[47]⟩ : ByteArray) ++ str (Lib.decDigits D) = str (47 :: Lib.decDigits D) := str_append [47] _
  have H45 := Lib.hid h45
  have H47 := Lib.hid h47
  clear h45 h47
  have hnN := nDigits_dig hsz1
  have hnD := nDigits_dig hsz2
  have hsN : (str (Lib.decDigits N)).size ≤ 1300000000 := by rw [str_size, Lib.decDigits_length]; omega
  have hsD : (str (Lib.decDigits D)).size ≤ 1300000000 := by rw [str_size, Lib.decDigits_length]; omega
  have hsN2 : (str (45 :: Lib.decDigits N)).size ≤ 1300000001 := by rw [str_size, List.length_cons, Lib.decDigits_length]; omega
  have hsD2 : (str (47 :: Lib.decDigits D)).size ≤ 1300000001 := by rw [str_size, List.length_cons, Lib.decDigits_length]; omega
  have htl := str_toList (Lib.decDigits D)
  by_cases h1 : D = 1
  · have hd1 : (Lib.decDigits D == [49]) = true := by rw [beq_iff_eq]; exact dec_eq_one.2 h1
    have hfin : fracText q = (if σ then [45] else []) ++ Lib.decDigits N ++ [] := by rw [HFT.out, if_pos h1]
    have HFIN := Lib.hid hfin
    clear h1 hfin
    cases σ
    · go_wp2_with fail
      refine (ntext_any B1 _ d1 (dig D) _ H2 rfl (by omega) (hT.ext HX3.below)).mono ?_
      rw [val_dig]
      rintro e w4 ⟨rfl, hb4⟩
      have HX4 := HX3.ext hb4
      go_wp2
      go_ret
      exact ⟨ret_of (by rw [HFIN.out]; simp), HX4.below⟩
    · go_wp2_with fail
      refine (ntext_any B1 _ d1 (dig D) _ H2 rfl (by omega) (hT.ext HX3.below)).mono ?_
      rw [val_dig]
      rintro e w4 ⟨rfl, hb4⟩
      have HX4 := HX3.ext hb4
      rw [H45.out]
      go_wp2
      go_ret
      exact ⟨ret_of (by rw [HFIN.out]; simp), HX4.below⟩
  · have hd1 : (Lib.decDigits D == [49]) = false := by
      apply Bool.eq_false_iff.2
      intro hh
      exact h1 (dec_eq_one.1 (beq_iff_eq.1 hh))
    have hfin : fracText q = (if σ then [45] else []) ++ Lib.decDigits N ++ 47 :: Lib.decDigits D := by rw [HFT.out, if_neg h1]
    have HFIN := Lib.hid hfin
    clear h1 hfin
    cases σ
    · go_wp2_with fail
      refine (ntext_any B1 _ d1 (dig D) _ H2 rfl (by omega) (hT.ext HX3.below)).mono ?_
      rw [val_dig]
      rintro e w4 ⟨rfl, hb4⟩
      have HX4 := HX3.ext hb4
      go_wp2
      go_ret
      exact ⟨ret_of (by rw [HFIN.out, H47.out, str_append]; simp), HX4.below⟩
    · go_wp2_with fail
      refine (ntext_any B1 _ d1 (dig D) _ H2 rfl (by omega) (hT.ext HX3.below)).mono ?_
      rw [val_dig]
      rintro e w4 ⟨rfl, hb4⟩
      have HX4 := HX3.ext hb4
      rw [H45.out]
      go_wp2
      go_ret
      exact ⟨ret_of (by rw [HFIN.out, H47.out, str_append]; simp), HX4.below⟩
end Go.Proofs.YthempimelfmipaaGreatDoor
