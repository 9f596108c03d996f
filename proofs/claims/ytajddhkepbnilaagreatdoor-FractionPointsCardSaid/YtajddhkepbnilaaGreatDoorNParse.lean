/- The package natural: Parse. -/
import Derived.Test.YtajddhkepbnilaaGreatDoorPMath
import Derived.Test.YtajddhkepbnilaaGreatDoorText3
import Derived.Test.YtajddhkepbnilaaGreatDoorHoist
import Derived.Shelf.Strings.SlTrimAscii
namespace Go.Proofs.YtajddhkepbnilaaGreatDoor
open Go.RowKit Go.Proofs Go

def parseV (L : List UInt8) : Nat := if L.length ≤ 4000 ∧ numeral L = true then dval 0 L else 0
def parseE (L : List UInt8) : Int := if 4000 < L.length then 6 else if numeral L = true then 0 else 3
theorem parse_long {L : List UInt8} (h : 4000 < L.length) : parseV L = 0 ∧ parseE L = 6 := by
  rw [parseV, parseE, if_neg (by omega), if_pos h]; exact ⟨rfl, rfl⟩
theorem parse_bad {L : List UInt8} (h : L.length ≤ 4000) (hn : numeral L = false) : parseV L = 0 ∧ parseE L = 3 := by
  rw [parseV, parseE, hn, if_neg (by simp), if_neg (by omega)]; exact ⟨rfl, rfl⟩
theorem parse_ok {L : List UInt8} (h : L.length ≤ 4000) (hn : numeral L = true) : parseV L = dval 0 L ∧ parseE L = 0 := by
  rw [parseV, parseE, hn, if_pos ⟨h, rfl⟩, if_neg (by omega), if_pos rfl]; exact ⟨rfl, rfl⟩

theorem stringsTrim_any (L : List UInt8) (w : World) (hl : L.length ≤ 4000) :
    Calls Tryz.prog 90 #[.string (str L), .string ⟨#[48, 49, 50, 51, 52, 53, 54, 55, 56, 57]⟩] w fun e w' => e = .returned (.string (str (Lib.trimS L ten))) ∧ Below w.heap.size w w' := by
  have hcon := Any.strings_Trim_laid Tryz.lays160 (by kernel_rfl) (str L) ⟨#[48, 49, 50, 51, 52, 53, 54, 55, 56, 57]⟩ w (by rw [str_size]; omega) (by decide) (ascii_of_all (by decide))
  exact hcon

theorem str_extract (L : List UInt8) (a b : Nat) : (str L).extract a b = str ((L.take b).drop a) := by
  apply ByteArray.ext
  simp [str, List.drop_take]
set_option maxHeartbeats 1000000 in
set_option maxRecDepth 100000 in
theorem nparse_bad (L : List UInt8) (w : World) (hL : L.length ≤ 9223372036854775807) (hb : 4000 < L.length ∨ numeral L = false) :
    Calls Tryz.prog 39 #[.string (str L)] w (RetNE w (parseV L) (parseE L)) := by
  have hsz : (str L).size = L.length := str_size L
  by_cases h1 : 4000 < L.length
  · obtain ⟨e1, e2⟩ := parse_long h1
    rw [e1, e2]
    clear hb
    have HX := BL.one w #[.slice none 0 0] 25
    have hc00 := HX.cell 0 0 rfl rfl
    have hf00 := HX.free 0 0 rfl
    simp only [] at hc00 hf00
    go_enter Tryz.func39, Tryz.ntmps39
    go_wp2
    exact bodyPost_ret (v := .tuple #[.agg #[.slice none 0 0], .int .i64 6]) (by simp [results, Tryz.results39, go_sem, hc00]) rfl (RetNE.nil HX.below)
  · have hn : numeral L = false := hb.resolve_left h1
    obtain ⟨e1, e2⟩ := parse_bad (L := L) (by omega) hn
    rw [e1, e2]
    rw [numeral_test] at hn
    have hn := Lib.hid hn
    clear hb
    have HX := BL.one w #[.slice none 0 0] 25
    have hc00 := HX.cell 0 0 rfl rfl
    have hf00 := HX.free 0 0 rfl
    simp only [] at hc00 hf00
    rcases L with _ | ⟨b, M⟩
    · have he : (str []).toList.isEmpty = true := by rw [str_toList]; rfl
      go_enter Tryz.func39, Tryz.ntmps39
      go_wp2
      exact bodyPost_ret (v := .tuple #[.agg #[.slice none 0 0], .int .i64 3]) (by simp [results, Tryz.results39, go_sem, hc00]) rfl (RetNE.nil HX.below)
    · have he : (str (b :: M)).toList.isEmpty = false := by rw [str_toList]; rfl
      have hix : ∀ h, (str (b :: M))[0]'h = b := fun _ => rfl
      have hq : ((str (b :: M)).toList == [48]) = (b :: M == [48]) := by rw [str_toList]
      rw [List.length_cons] at hL hsz h1
      have htr : ∀ (c : Bool), ((b :: M).all isDig = c) → (str (Lib.trimS (b :: M) ten)).toList.isEmpty = c := fun c h => by
        rw [str_toList, ← h, Bool.eq_iff_iff, List.isEmpty_iff, trim_nil]
      have HTR := Lib.hid htr
      clear htr
      by_cases hb : b = 48
      · have hb1 : (((b.toNat : Nat) : Int) == 48) = true := by rw [hb]; rfl
        by_cases hM : M = []
        · exfalso
          have := hn.out
          rw [hb, hM] at this
          revert this; decide
        · have hq2 : ((str (b :: M)).toList == [48]) = false := by
            rw [hq, beq_eq_false_iff_ne]
            intro h
            exact hM (List.cons.inj h).2
          clear hq hb hM
          go_enter Tryz.func39, Tryz.ntmps39
          go_wp2
          exact bodyPost_ret (v := .tuple #[.agg #[.slice none 0 0], .int .i64 3]) (by simp [results, Tryz.results39, go_sem, hc00]) rfl (RetNE.nil HX.below)
      · have hb1 : (((b.toNat : Nat) : Int) == 48) = false := by
          rw [beq_eq_false_iff_ne]
          intro h
          exact hb (UInt8.toNat_inj.1 (show b.toNat = 48 by omega))
        have ha : (b :: M).all isDig = false := by
          have := hn.out
          have e1 : (b :: M == []) = false := rfl
          have e2 : ((b :: M).head? == some 48) = false := by simp [hb]
          rw [e1, e2] at this
          simpa using this
        have ht := HTR.out _ ha
        clear hq hb ha HTR
        go_enter Tryz.func39, Tryz.ntmps39
        go_wp2_with fail
        refine (stringsTrim_any (b :: M) _ (by rw [List.length_cons]; omega)).mono ?_
        rintro e w1 ⟨rfl, hb1⟩
        replace HX := HX.ext hb1
        clear hc00 hf00
        have hc00 := HX.cell 0 0 rfl rfl
        have hf00 := HX.free 0 0 rfl
        simp only [] at hc00 hf00
        go_wp2
        exact bodyPost_ret (v := .tuple #[.agg #[.slice none 0 0], .int .i64 3]) (by simp [results, Tryz.results39, go_sem, hc00]) rfl (RetNE.nil (HX.below.setCell (by simp) _))

theorem parse32 (L : List UInt8) (w : World) {u : Nat} (hl : L.length ≤ 9) (h : Lib.parseUintB 32 L = .ok u) :
    Calls Tryz.prog 91 #[.string (str L), .int .i64 10, .int .i64 32] w fun e w' => e = .returned (.tuple #[.int .u64 (u : Int), .nilIface]) ∧ Below w.heap.size w w' :=
  (Tryz.strconv_ParseUint_10_at32_ok (str L) (by rw [str_size]; omega) u h w).mono fun e w' h => ⟨h.1, by
    rcases h.2 with h | h
    · rw [h]; exact Below.refl _ _
    · rw [h]; exact Lib.bytesWorld_below _ _ _⟩

set_option maxHeartbeats 1000000 in
set_option maxRecDepth 100000 in
theorem nparse_ok (L : List UInt8) (w : World) (hL : L.length ≤ 4000) (hn : numeral L = true) :
    Calls Tryz.prog 39 #[.string (str L)] w (RetNE w (dval 0 L) 0) := by
  have hsz : (str L).size = L.length := str_size L
  have hall := numeral_all hn
  have hne := numeral_ne hn
  have hhd := numeral_head hn
  have he : (str L).toList.isEmpty = false := by rw [str_toList, List.isEmpty_eq_false_iff]; exact hne
  have ht : (str (Lib.trimS L ten)).toList.isEmpty = true := by rw [str_toList, List.isEmpty_iff, trim_nil]; exact hall
  have hp : 0 < L.length := List.length_pos_iff.2 hne
  have hix : ∀ h, (str L)[0]'h = L[0]'hp := fun _ => rfl
  have hq : ((str L).toList == [48]) = (L == [48]) := by rw [str_toList]
  clear hn
  by_cases hb : L[0]'hp = 48
  · have hb1 : (((L[0]'hp).toNat : Int) == 48) = true := by rw [hb]; rfl
    have hL48 : L = [48] := hhd.resolve_right (fun h => h (by rw [List.head?_eq_getElem?, List.getElem?_eq_getElem hp, hb]))
    have hq2 : ((str L).toList == [48]) = true := by rw [hq, hL48]; rfl
    clear hq hb hL48 hhd hne
    go_enter Tryz.func39, Tryz.ntmps39
    go_wp2_with fail
    refine (stringsTrim_any L _ hL).mono ?_
    rintro e w1 ⟨rfl, hb⟩
    have HX := (BL.one w #[.slice none 0 0] 25).ext hb
    clear hb
    have hg := HX.lt 0 rfl
    simp only [] at hg
    have HA := Lib.hid hall
    go_wp2
    clear he ht hix hb1 hq2
    go_loopw [4, 5] (fun x y wr => ∃ (k : Nat) (o : List Nat) (A' : Option Addr) (c' : Nat), Chunks L k o ∧ 9 * k < L.length + 9 ∧ x = .slice A' k c' ∧ y = .int .i64 ((L.length : Int) - 9 * (k : Int)) ∧ Own wr w1.heap.size 110 A' k c' (ints .u32 o) ∧ Below w1.heap.size w1 wr) (fun _ y _ => (intOf y).toNat)
    case atStart => exact ⟨0, [], _, _, Chunks.zero L, by omega, rfl, by go_num, World.ownsRow_nil _ _ _ _, Below.refl _ _⟩
    case round =>
      obtain ⟨k, o, A', c', hC, hk, rfl, rfl, hown, hbw⟩ := hrel
      have HXr := HX.ext hbw
      by_cases hk0 : 9 * k < L.length
      · have hn := Lib.hid (hC.next HA.out hk0)
        have hlt := chunk_lt HA.out k
        have hp32 := Lib.hid (parseB32_chunk HA.out hk0)
        have hcl := chunk_len L k
        obtain ⟨hi, hhi⟩ : ∃ hi, L.length - 9 * k = hi := ⟨_, rfl⟩
        obtain ⟨lo, hlo⟩ : ∃ lo, L.length - 9 * (k + 1) = lo := ⟨_, rfl⟩
        have hex : (str L).extract lo hi = str (chunk L k) := by rw [← hlo, ← hhi]; exact str_extract L _ _
        have hmx : max ((hi : Int) - 9) 0 = (lo : Int) := by omega
        have hh2 : (L.length : Int) - 9 * (k : Int) = (hi : Int) := by omega
        have hnx : (hi : Int) - 9 = (L.length : Int) - 9 * ((k + 1 : Nat) : Int) := by omega
        rw [hh2]
        have b1 : lo ≤ hi := by omega
        have b2 : hi ≤ L.length := by omega
        have b3 : 0 < hi := by omega
        have b4 : (-9 : Int) ≤ (L.length : Int) - 9 * ((k + 1 : Nat) : Int) := by omega
        have HNX := Lib.hid hnx
        clear hnx hhi hlo hh2
        go_wp2_with fail
        refine (parse32 (chunk L k) _ hcl hp32.out).mono ?_
        rintro e w2 ⟨rfl, hb⟩
        replace hbw := hbw.trans (hb.mono (by have := hbw.size; omega))
        replace hown := hown.ext hb
        have hsw := hbw.size
        clear hb
        go_wp2_with (at_builtin; refine wp_push EU _ rfl _ _ rfl rfl rfl hown (by rfl) (by omega) (by omega) (by omega) ?_)
        intro A2 c2 w3 hown2 hgr2 hb2 hlt2
        go_wp2
        go_roundw
        case rel => exact ⟨k + 1, _, _, _, hn.out, by omega, rfl, by rw [← HNX.out], own_snoc hown2 rfl, hbw.trans hb2⟩
        case measure => simp [intOf]; omega
      · have hv := hC.val (by omega)
        have hlen := hC.len
        have hd := hC.dig
        have hown3 : Own wr w1.heap.size 110 A' o.length c' (ints .u32 o) := by rw [hlen]; exact hown
        have HL := Own.lim hown3 (small_of_dig hd)
        have hkb : k ≤ 455 := by omega
        have HV := Lib.hid hv
        have HLEN := Lib.hid hlen.symm
        clear hv hlen hown3 hown hC
        go_wp2_with fail
        refine (made_any A' k c' o _ HL hd HLEN.out (by omega)).mono ?_
        rw [HV.out]
        rintro e w2 ⟨A4, c4, rfl, H4, hb⟩
        have HX4 := HXr.ext hb
        have hc00 := HX4.cell 0 0 rfl rfl
        have hf00 := HX4.free 0 0 rfl
        simp only [] at hc00 hf00
        go_wp2
        have hk := HX4.keep1 0 rfl rfl (.slice A4 (dig (dval 0 L)).length c4)
        replace HX4 := HX4.put1 0 rfl (by omega) (by intro k q hk hne; match k, hk with | 0, hk => (simp at hk; subst hk; simp at hne ⊢; try omega) | k + 1, hk => simp at hk) (.slice A4 (dig (dval 0 L)).length c4)
        replace H4 := H4.stay hk
        simp only [List.set_cons_zero] at HX4
        clear hc00 hf00 hk
        have hc00 := HX4.cell 0 0 rfl rfl
        simp only [] at hc00
        exact bodyPost_ret (v := .tuple #[.agg #[.slice A4 (dig (dval 0 L)).length c4], .int .i64 0]) (by simp [results, Tryz.results39, go_sem, hc00]) rfl ⟨A4, c4, rfl, H4, HX4.below⟩
  · have hb1 : (((L[0]'hp).toNat : Int) == 48) = false := by
      rw [beq_eq_false_iff_ne]
      intro h
      exact hb (UInt8.toNat_inj.1 (show (L[0]'hp).toNat = 48 by omega))
    clear hq hb hhd hne
    go_enter Tryz.func39, Tryz.ntmps39
    go_wp2_with fail
    refine (stringsTrim_any L _ hL).mono ?_
    rintro e w1 ⟨rfl, hb⟩
    have HX := (BL.one w #[.slice none 0 0] 25).ext hb
    clear hb
    have hg := HX.lt 0 rfl
    simp only [] at hg
    have HA := Lib.hid hall
    go_wp2
    clear he ht hix hb1
    go_loopw [4, 5] (fun x y wr => ∃ (k : Nat) (o : List Nat) (A' : Option Addr) (c' : Nat), Chunks L k o ∧ 9 * k < L.length + 9 ∧ x = .slice A' k c' ∧ y = .int .i64 ((L.length : Int) - 9 * (k : Int)) ∧ Own wr w1.heap.size 110 A' k c' (ints .u32 o) ∧ Below w1.heap.size w1 wr) (fun _ y _ => (intOf y).toNat)
    case atStart => exact ⟨0, [], _, _, Chunks.zero L, by omega, rfl, by go_num, World.ownsRow_nil _ _ _ _, Below.refl _ _⟩
    case round =>
      obtain ⟨k, o, A', c', hC, hk, rfl, rfl, hown, hbw⟩ := hrel
      have HXr := HX.ext hbw
      by_cases hk0 : 9 * k < L.length
      · have hn := Lib.hid (hC.next HA.out hk0)
        have hlt := chunk_lt HA.out k
        have hp32 := Lib.hid (parseB32_chunk HA.out hk0)
        have hcl := chunk_len L k
        obtain ⟨hi, hhi⟩ : ∃ hi, L.length - 9 * k = hi := ⟨_, rfl⟩
        obtain ⟨lo, hlo⟩ : ∃ lo, L.length - 9 * (k + 1) = lo := ⟨_, rfl⟩
        have hex : (str L).extract lo hi = str (chunk L k) := by rw [← hlo, ← hhi]; exact str_extract L _ _
        have hmx : max ((hi : Int) - 9) 0 = (lo : Int) := by omega
        have hh2 : (L.length : Int) - 9 * (k : Int) = (hi : Int) := by omega
        have hnx : (hi : Int) - 9 = (L.length : Int) - 9 * ((k + 1 : Nat) : Int) := by omega
        rw [hh2]
        have b1 : lo ≤ hi := by omega
        have b2 : hi ≤ L.length := by omega
        have b3 : 0 < hi := by omega
        have b4 : (-9 : Int) ≤ (L.length : Int) - 9 * ((k + 1 : Nat) : Int) := by omega
        have HNX := Lib.hid hnx
        clear hnx hhi hlo hh2
        go_wp2_with fail
        refine (parse32 (chunk L k) _ hcl hp32.out).mono ?_
        rintro e w2 ⟨rfl, hb⟩
        replace hbw := hbw.trans (hb.mono (by have := hbw.size; omega))
        replace hown := hown.ext hb
        have hsw := hbw.size
        clear hb
        go_wp2_with (at_builtin; refine wp_push EU _ rfl _ _ rfl rfl rfl hown (by rfl) (by omega) (by omega) (by omega) ?_)
        intro A2 c2 w3 hown2 hgr2 hb2 hlt2
        go_wp2
        go_roundw
        case rel => exact ⟨k + 1, _, _, _, hn.out, by omega, rfl, by rw [← HNX.out], own_snoc hown2 rfl, hbw.trans hb2⟩
        case measure => simp [intOf]; omega
      · have hv := hC.val (by omega)
        have hlen := hC.len
        have hd := hC.dig
        have hown3 : Own wr w1.heap.size 110 A' o.length c' (ints .u32 o) := by rw [hlen]; exact hown
        have HL := Own.lim hown3 (small_of_dig hd)
        have hkb : k ≤ 455 := by omega
        have HV := Lib.hid hv
        have HLEN := Lib.hid hlen.symm
        clear hv hlen hown3 hown hC
        go_wp2_with fail
        refine (made_any A' k c' o _ HL hd HLEN.out (by omega)).mono ?_
        rw [HV.out]
        rintro e w2 ⟨A4, c4, rfl, H4, hb⟩
        have HX4 := HXr.ext hb
        have hc00 := HX4.cell 0 0 rfl rfl
        have hf00 := HX4.free 0 0 rfl
        simp only [] at hc00 hf00
        go_wp2
        have hk := HX4.keep1 0 rfl rfl (.slice A4 (dig (dval 0 L)).length c4)
        replace HX4 := HX4.put1 0 rfl (by omega) (by intro k q hk hne; match k, hk with | 0, hk => (simp at hk; subst hk; simp at hne ⊢; try omega) | k + 1, hk => simp at hk) (.slice A4 (dig (dval 0 L)).length c4)
        replace H4 := H4.stay hk
        simp only [List.set_cons_zero] at HX4
        clear hc00 hf00 hk
        have hc00 := HX4.cell 0 0 rfl rfl
        simp only [] at hc00
        exact bodyPost_ret (v := .tuple #[.agg #[.slice A4 (dig (dval 0 L)).length c4], .int .i64 0]) (by simp [results, Tryz.results39, go_sem, hc00]) rfl ⟨A4, c4, rfl, H4, HX4.below⟩

theorem nparse_any (L : List UInt8) (w : World) (hL : L.length ≤ 9223372036854775807) :
    Calls Tryz.prog 39 #[.string (str L)] w (RetNE w (parseV L) (parseE L)) := by
  by_cases h : L.length ≤ 4000 ∧ numeral L = true
  · obtain ⟨e1, e2⟩ := parse_ok h.1 h.2
    rw [e1, e2]
    exact nparse_ok L w h.1 h.2
  · refine nparse_bad L w hL ?_
    by_cases h1 : 4000 < L.length
    · exact .inl h1
    · right
      rw [← Bool.not_eq_true]
      exact fun h2 => h ⟨by omega, h2⟩
end Go.Proofs.YtajddhkepbnilaaGreatDoor
