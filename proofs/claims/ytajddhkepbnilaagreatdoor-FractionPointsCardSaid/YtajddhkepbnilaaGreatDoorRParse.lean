/- The reference of layer 1: value, Parse. -/
import Derived.Test.YtajddhkepbnilaaGreatDoorNParse
import Derived.Test.YtajddhkepbnilaaGreatDoorRText
namespace Go.Proofs.YtajddhkepbnilaaGreatDoor
open Go.RowKit Go.Proofs Go

theorem chunk_step {L : List UInt8} (ha : L.all isDig = true) {k m : Nat} (hm : L.length - 9 * (k + 1) + m < L.length - 9 * k) :
    ∃ h : L.length - 9 * (k + 1) + m < L.length, isDig (L[L.length - 9 * (k + 1) + m]'h) = true ∧
      dval 0 ((chunk L k).take (m + 1)) = 10 * dval 0 ((chunk L k).take m) + ((L[L.length - 9 * (k + 1) + m]'h).toNat - 48) ∧ dval 0 ((chunk L k).take (m + 1)) < 1000000000 := by
  have h : L.length - 9 * (k + 1) + m < L.length := by omega
  have hl : m < (chunk L k).length := by simp [chunk]; omega
  have he : (chunk L k)[m]'hl = L[L.length - 9 * (k + 1) + m]'h := by simp [chunk]
  refine ⟨h, List.all_eq_true.1 ha _ (List.getElem_mem h), ?_, ?_⟩
  · rw [List.take_succ_eq_append_getElem hl, dval_snoc, he]
  · have h1 : ((chunk L k).take (m + 1)).all isDig = true := by
      rw [List.all_eq_true]
      exact fun x hx => List.all_eq_true.1 (chunk_all ha k) x (List.mem_of_mem_take hx)
    have h2 := dval_lt h1
    have h3 : ((chunk L k).take (m + 1)).length ≤ 9 := Nat.le_trans (List.length_take_le' ..) (chunk_len L k)
    exact Nat.lt_of_lt_of_le h2 (Nat.le_trans (Nat.pow_le_pow_right (by omega) h3) (by decide))

set_option maxHeartbeats 1000000 in
set_option maxRecDepth 100000 in
theorem rvalue_any (L : List UInt8) (w : World) (hL : L.length ≤ 4000) (hall : L.all isDig = true) :
    Calls Tryz.prog 94 #[.string (str L)] w (RetN w (dval 0 L)) := by
  have hsz : (str L).size = L.length := str_size L
  have HA := Lib.hid hall
  clear hall
  go_enter Tryz.func94, Tryz.ntmps94
  go_wp2
  have HX := BL.one w #[.slice none 0 0] 25
  have hg := HX.lt 0 rfl
  simp only [] at hg
  generalize w.alloc (.cells #[.slice none 0 0] 25) = w1 at *
  go_loopw [3, 4] (fun x y wr => ∃ (k : Nat) (o : List Nat) (A' : Option Addr) (c' : Nat), Chunks L k o ∧ 9 * k < L.length + 9 ∧ x = .slice A' k c' ∧ y = .int .i64 ((L.length : Int) - 9 * (k : Int)) ∧ Own wr w1.heap.size 110 A' k c' (ints .u32 o) ∧ Below w1.heap.size w1 wr) (fun _ y _ => (intOf y).toNat)
  case atStart => exact ⟨0, [], _, _, Chunks.zero L, by omega, rfl, by go_num, World.ownsRow_nil _ _ _ _, Below.refl _ _⟩
  case round =>
    obtain ⟨k, o, A', c', hC, hk, rfl, rfl, hown, hbw⟩ := hrel
    have HXr := HX.ext hbw
    by_cases hk0 : 9 * k < L.length
    · have hn := Lib.hid (hC.next HA.out hk0)
      have hst := Lib.hid (fun m h => chunk_step HA.out (k := k) (m := m) h)
      have hlen : (chunk L k).length = (L.length - 9 * k) - (L.length - 9 * (k + 1)) := by simp [chunk]
      obtain ⟨hi, hhi⟩ : ∃ hi, L.length - 9 * k = hi := ⟨_, rfl⟩
      obtain ⟨lo, hlo⟩ : ∃ lo, L.length - 9 * (k + 1) = lo := ⟨_, rfl⟩
      rw [hhi, hlo] at hst
      rw [hhi, hlo] at hlen
      have hmx : max ((hi : Int) - 9) 0 = (lo : Int) := by omega
      have hh2 : (L.length : Int) - 9 * (k : Int) = (hi : Int) := by omega
      have hnx : (hi : Int) - 9 = (L.length : Int) - 9 * ((k + 1 : Nat) : Int) := by omega
      rw [hh2]
      have b1 : lo < hi := by omega
      have b2 : hi ≤ L.length := by omega
      have b3 : 0 < hi := by omega
      have b4 : (-9 : Int) ≤ (L.length : Int) - 9 * ((k + 1 : Nat) : Int) := by omega
      have HNX := Lib.hid hnx
      have HLEN := Lib.hid hlen
      clear hnx hhi hlo hh2 hlen
      go_wp2
      go_loopg [5, 6] (hi - lo) (fun kk x y wr' => ∃ m : Nat, lo + m + kk = hi ∧ x = .int .u32 ((dval 0 ((chunk L k).take m) : Nat) : Int) ∧ y = .int .i64 ((lo + m : Nat) : Int) ∧ wr' = wr)
      case atStart => exact ⟨0, by omega, rfl, rfl, rfl⟩
      case round =>
        obtain ⟨m, hm, rfl, rfl, rfl⟩ := hrel
        by_cases hm0 : lo + m < hi
        · obtain ⟨h, hd, hv, hlt⟩ := hst.out m hm0
          have hix : ∀ h', (str L)[lo + m]'h' = L[lo + m]'h := fun _ => rfl
          rw [isDig_iff] at hd
          generalize L[lo + m]'h = b at *
          have HV := Lib.hid hv
          rw [hv] at hlt
          clear hv
          generalize dval 0 ((chunk L k).take m) = x at *
          go_wp2
          go_roundg (hi - (lo + (m + 1)))
          case measure => omega
          case rel => exact ⟨m + 1, by omega, by rw [HV.out]; go_num, by go_num, by first | rfl | trivial⟩
        · have hmm : (chunk L k).take m = chunk L k := List.take_of_length_le (by rw [HLEN.out]; omega)
          have hlt := chunk_lt HA.out k
          rw [hmm]
          clear hmm
          have hsw := hbw.size
          go_wp2_with (at_builtin; refine wp_push EU _ rfl _ _ rfl rfl rfl hown (by rfl) (by omega) (by omega) (by omega) ?_)
          intro A2 c2 w3 hown2 hgr2 hb2 hlt2
          go_wp2
          go_roundw
          case rel => exact ⟨k + 1, _, _, _, hn.out, by omega, rfl, by rw [← HNX.out], own_snoc hown2 rfl, hbw.trans hb2⟩
          case measure => simp [intOf]; omega
    · have hv := hC.val (by omega)
      have hlen := hC.len
      have hd := hC.dig
      have hown3 : Own wr w1.heap.size 110 A' o.length c' (ints .u32 o) := by rw [hlen]; exact hown
      have HL := Own.lim hown3 (small_of_dig hd)
      have hkb : k ≤ 455 := by omega
      have HV := Lib.hid hv
      have HLEN := Lib.hid hlen.symm
      clear hv hlen hown3 hown hC
      go_wp2_with fail
      refine (rnorm_any A' k c' o _ HL HLEN.out (by omega)).mono ?_
      rw [HV.out]
      rintro e w2 ⟨A4, c4, rfl, H4, hb⟩
      have HX4 := HXr.ext hb
      have hc00 := HX4.cell 0 0 rfl rfl
      have hf00 := HX4.free 0 0 rfl
      simp only [] at hc00 hf00
      go_wp2
      have hk := HX4.keep1 0 rfl rfl (.slice A4 (dig (dval 0 L)).length c4)
      replace HX4 := HX4.put1 0 rfl (by omega) (by intro k q hk hne; match k, hk with | 0, hk => (simp at hk; subst hk; simp at hne ⊢; try omega) | k + 1, hk => simp at hk) (.slice A4 (dig (dval 0 L)).length c4)
      replace H4 := H4.stay hk
      simp only [List.set_cons_zero] at HX4
      clear hc00 hf00 hk
      have hc00 := HX4.cell 0 0 rfl rfl
      simp only [] at hc00
      exact bodyPost_ret (v := .agg #[.slice A4 (dig (dval 0 L)).length c4]) (by simp [results, Tryz.results94, go_sem, hc00]) rfl ⟨A4, c4, rfl, H4, HX4.below⟩

theorem take_all_succ {L : List UInt8} {j : Nat} (h : j < L.length) (ha : (L.take j).all isDig = true) (hd : isDig (L[j]'h) = true) : (L.take (j + 1)).all isDig = true := by
  rw [List.take_succ_eq_append_getElem h, List.all_append, ha]
  simp [hd]
theorem not_all {L : List UInt8} {j : Nat} (h : j < L.length) (hd : isDig (L[j]'h) = false) : numeral L = false := by
  rw [← Bool.not_eq_true]
  intro hn
  have := List.all_eq_true.1 (numeral_all hn) _ (List.getElem_mem h)
  rw [hd] at this
  cases this

set_option maxHeartbeats 1000000 in
set_option maxRecDepth 100000 in
theorem rparse_any (L : List UInt8) (w : World) (hL : L.length ≤ 9223372036854775807) :
    Calls Tryz.prog 41 #[.string (str L)] w (RetNE w (parseV L) (parseE L)) := by
  have hsz : (str L).size = L.length := str_size L
  have HX := BL.one w #[.slice none 0 0] 25
  have hc00 := HX.cell 0 0 rfl rfl
  have hf00 := HX.free 0 0 rfl
  simp only [] at hc00 hf00
  by_cases h1 : 4000 < L.length
  · obtain ⟨e1, e2⟩ := parse_long h1
    rw [e1, e2]
    go_enter Tryz.func41, Tryz.ntmps41
    go_wp2
    exact bodyPost_ret (v := .tuple #[.agg #[.slice none 0 0], .int .i64 6]) (by simp [results, Tryz.results41, go_sem, hc00]) rfl (RetNE.nil HX.below)
  · have HP := Lib.hid (fun (h : numeral L = false) => parse_bad (L := L) (by omega) h)
    have HO := Lib.hid (fun (h : numeral L = true) => parse_ok (L := L) (by omega) h)
    obtain ⟨V, hV⟩ : ∃ V, parseV L = V := ⟨_, rfl⟩
    obtain ⟨E, hE⟩ : ∃ E, parseE L = E := ⟨_, rfl⟩
    rw [hV, hE]
    rw [hV, hE] at HP HO
    clear hV hE
    go_enter Tryz.func41, Tryz.ntmps41
    go_wp2
    go_loopg [4] L.length (fun k x wr => ∃ j : Nat, j + k = L.length ∧ Hid ((L.take j).all isDig = true) ∧ x = .int .i64 (j : Int) ∧ wr = w.alloc (.cells #[.slice none 0 0] 25))
    case atStart => exact ⟨0, by omega, Lib.hid rfl, rfl, rfl⟩
    case round =>
      obtain ⟨j, hj, hall, rfl, rfl⟩ := hrel
      by_cases hj0 : j < L.length
      · have hix : ∀ h', (str L)[j]'h' = L[j]'hj0 := fun _ => rfl
        by_cases hd : isDig (L[j]'hj0) = true
        · have hs := Lib.hid (take_all_succ hj0 hall.out hd)
          rw [isDig_iff] at hd
          generalize L[j]'hj0 = b at *
          have t1 : decide (((b.toNat : Nat) : Int) < 48) = false := decide_eq_false (by omega)
          have t2 : decide ((57 : Int) < ((b.toNat : Nat) : Int)) = false := decide_eq_false (by omega)
          go_wp2
          go_roundg (L.length - (j + 1))
          case measure => omega
          case rel => exact ⟨j + 1, by omega, hs, by go_num, by first | rfl | trivial⟩
        · have hbad := Lib.hid (HP.out (not_all hj0 (by simpa using hd)))
          rw [isDig_iff] at hd
          generalize L[j]'hj0 = b at *
          by_cases t0 : b.toNat < 48
          · have t1 : decide (((b.toNat : Nat) : Int) < 48) = true := decide_eq_true (by omega)
            clear hd
            go_wp2
            exact bodyPost_ret (v := .tuple #[.agg #[.slice none 0 0], .int .i64 3]) (by simp [results, Tryz.results41, go_sem, hc00]) rfl (by rw [hbad.out.1, hbad.out.2]; exact RetNE.nil HX.below)
          · have t1 : decide (((b.toNat : Nat) : Int) < 48) = false := decide_eq_false (by omega)
            have t2 : decide ((57 : Int) < ((b.toNat : Nat) : Int)) = true := decide_eq_true (by omega)
            clear hd t0
            go_wp2
            exact bodyPost_ret (v := .tuple #[.agg #[.slice none 0 0], .int .i64 3]) (by simp [results, Tryz.results41, go_sem, hc00]) rfl (by rw [hbad.out.1, hbad.out.2]; exact RetNE.nil HX.below)
      · have ha : Hid (L.all isDig = true) := Lib.hid (by have := hall.out; rwa [List.take_of_length_le (by omega)] at this)
        have hnum : Hid (∀ c, (Lib.decDigits (dval 0 L) == L) = c → numeral L = c) := Lib.hid (fun c h => by rw [← h, numeral, Bool.eq_iff_iff, beq_iff_eq, beq_iff_eq]; exact ⟨Eq.symm, Eq.symm⟩)
        clear hall hc00 hf00
        have hlD : (dig (dval 0 L)).length ≤ 445 := by
          have h2 := dval_lt ha.out
          obtain ⟨K, hK⟩ : ∃ K, K = 445 := ⟨_, rfl⟩
          have h3 : 10 ^ L.length ≤ 10 ^ (9 * K) := Nat.pow_le_pow_right (by omega) (by omega)
          rw [← hK]
          exact dig_len_le (by rw [pw_ten]; exact Nat.lt_of_lt_of_le h2 h3)
        obtain ⟨N, hN⟩ : ∃ N, dval 0 L = N := ⟨_, rfl⟩
        rw [hN] at hlD hnum HO
        have HN := Lib.hid hN
        clear hN
        go_wp2_with fail
        refine (rvalue_any L _ (by omega) ha.out).mono ?_
        rw [HN.out]
        rintro e w1 ⟨A1, c1, rfl, H1, hb⟩
        replace HX := HX.ext hb
        clear hb
        go_upto_region 8 with fail
        have hg1 : w.heap.size < w1.heap.size := HX.lt 0 rfl
        have hb := below_alloc w1 (.cells #[.slice A1 (dig N).length c1] 25)
        replace HX := HX.new #[.slice A1 (dig N).length c1] 25
        simp only [List.cons_append, List.nil_append] at HX
        replace H1 := H1.ext hb
        clear hb
        generalize w1.alloc (.cells #[.slice A1 (dig N).length c1] 25) = W2 at *
        generalize w1.heap.size = g at *
        have hc10 := HX.cell 1 0 rfl rfl
        simp only [] at hc10
        go_wp2_with fail
        refine (rtext_any A1 _ c1 (dig N) _ H1 rfl (by omega)).mono ?_
        rw [val_dig]
        rintro e w3 ⟨rfl, hb⟩
        replace HX := HX.ext hb
        replace H1 := H1.ext hb
        clear hc10 hb
        have hc00 := HX.cell 0 0 rfl rfl
        have hf00 := HX.free 0 0 rfl
        have hc10 := HX.cell 1 0 rfl rfl
        simp only [] at hc00 hf00 hc10
        cases hc : (Lib.decDigits N == L) with
        | false =>
          have hbad := Lib.hid (HP.out (hnum.out _ hc))
          have hcc : ((str (Lib.decDigits N)).toList == (str L).toList) = false := by rw [str_toList, str_toList, hc]
          clear hc
          go_wp2
          exact bodyPost_ret (v := .tuple #[.agg #[.slice none 0 0], .int .i64 3]) (by simp [results, Tryz.results41, go_sem, hc00]) rfl (by rw [hbad.out.1, hbad.out.2]; exact RetNE.nil (HX.below.setCell (by simp) _))
        | true =>
          have hok := Lib.hid (HO.out (hnum.out _ hc))
          have hcc : ((str (Lib.decDigits N)).toList == (str L).toList) = true := by rw [str_toList, str_toList, hc]
          clear hc
          go_wp2
          have hk := HX.keep1 0 rfl rfl (.slice A1 (dig N).length c1)
          replace HX := HX.put1 0 rfl (by omega) (by intro k q hk hne; match k, hk with | 0, hk => (simp at hk; subst hk; simp at hne ⊢; try omega) | 1, hk => (simp at hk; subst hk; simp at hne ⊢; try omega) | k + 2, hk => simp at hk) (.slice A1 (dig N).length c1)
          replace H1 := H1.stay hk
          simp only [List.set_cons_zero] at HX
          clear hc00 hf00 hc10 hk
          have hc00 := HX.cell 0 0 rfl rfl
          simp only [] at hc00
          exact bodyPost_ret (v := .tuple #[.agg #[.slice A1 (dig N).length c1], .int .i64 0]) (by simp [results, Tryz.results41, go_sem, hc00]) rfl (by rw [hok.out.1, hok.out.2]; exact ⟨A1, c1, rfl, H1, HX.below⟩)
end Go.Proofs.YtajddhkepbnilaaGreatDoor
