/- The reference of layer 1, first part: Norm, Of, Cmp. -/
import Derived.Test.YtolkijelldlmeaaGreatDoorNat9
namespace Go.Proofs.YtolkijelldlmeaaGreatDoor
open Go.RowKit Go.Proofs

theorem LimbsAt.next2 {l : List Nat} {k : Nat} {o : List Nat} {carry : Nat} (h : LimbsAt l k o carry) (hs : at_ l k < 4294967296) :
    LimbsAt l (k + 1) (o ++ [(carry + at_ l k) % 1000000000]) ((carry + at_ l k) / 1000000000) := by
  have := h.car
  refine ⟨by rw [List.length_append, h.len]; rfl, h.dig.snoc (by omega), by omega, ?_⟩
  rw [val_snoc, val_take_at, ← h.eq, h.len, pw_succ]
  have e : carry + at_ l k = 1000000000 * ((carry + at_ l k) / 1000000000) + (carry + at_ l k) % 1000000000 := by omega
  generalize (carry + at_ l k) / 1000000000 = q at *
  generalize (carry + at_ l k) % 1000000000 = r at *
  grind

def RetNF (w : World) (n : Nat) (e : Ending) (w' : World) : Prop := ∃ A c, e = .returned (.agg #[.slice A (dig n).length c]) ∧ Lim w' A c (dig n) ∧ Below w.heap.size w w' ∧ ∀ g, g < w.heap.size → Avoid g A (dig n).length
theorem RetNF.ret {w w' : World} {n : Nat} {e : Ending} (h : RetNF w n e w') : RetN w n e w' := by
  obtain ⟨A, c, h1, h2, h3, _⟩ := h
  exact ⟨A, c, h1, h2, h3⟩
set_option maxHeartbeats 400000 in
set_option maxRecDepth 100000 in
theorem rnorm_new (A : Option Addr) (n c : Nat) (l : List Nat) (w : World) (H : Lim w A c l) (hn : n = l.length) (hl : n ≤ 8589934592) :
    Calls Tryz.prog 315 #[.agg #[.slice A n c]] w (RetNF w (val l)) := by
  subst hn
  have hcap := H.cap
  go_enter Tryz.func315, Tryz.ntmps315
  go_wp2_with fail
  have HX := Bx.two w #[.slice A l.length c] #[.slice none 0 0] 34 34
  go_loopw [3, 4, 5] (fun s cy i wr => ∃ (k : Nat) (o : List Nat) (carry : Nat) (A' : Option Addr) (c' : Nat), k ≤ l.length + 5 ∧ LimbsAt l k o carry ∧ s = .slice A' k c' ∧ cy = .int .u64 carry ∧ i = .int .i64 k ∧ Own wr (w.heap.size + 2) 208 A' k c' (ints .u32 o) ∧ (l.length < k → carry = 0) ∧ Below (w.heap.size + 2) ((w.alloc (.cells #[.slice A l.length c] 34)).alloc (.cells #[.slice none 0 0] 34)) wr)
    (fun _ cy i _ => 2 * (l.length + 5 - (intOf i).toNat) + min (intOf cy).toNat 1)
  case atStart => exact ⟨0, [], 0, _, _, by omega, ⟨rfl, Dig.nil, by omega, rfl⟩, rfl, rfl, rfl, World.ownsRow_nil _ _ _ _, fun _ => rfl, Below.refl _ _⟩
  case round =>
    obtain ⟨k, o, carry, A', c', hk, hL, rfl, rfl, rfl, hown, hcz, hb⟩ := hrel
    have HCZ := Lib.hid hcz
    clear hcz
    have hcar := hL.car
    have hsz := hb.size
    simp at hsz
    have HXr := HX.ext (hb.mono (by simp))
    have hx : wr.cell? ⟨w.heap.size, 0, none⟩ = some (.slice A l.length c) := HXr.cell0 0 rfl rfl
    by_cases hlt : k < l.length
    · have hs := H.small k
      obtain ⟨ad, rfl, hbl, hc⟩ := (H.ext HXr.below).cellAt hlt
      go_wp2_with (at_builtin; refine wp_push EU _ rfl _ _ rfl rfl rfl hown (by rfl) (by omega) (by omega) (by omega) ?_)
      intro A2 c2 w2 hown2 hgr2 hb2 hlt2
      go_wp2
      go_roundw
      case rel => exact ⟨k + 1, _, _, _, _, by omega, hL.next2 hs, rfl, by go_num, by go_num, own_snoc hown2 (by omega), fun h => absurd h (by omega), hb.trans hb2⟩
      case measure => simp [intOf]; omega
    · have hz : at_ l k = 0 := at_ge (by omega)
      have HZ := Lib.hid hz
      clear hz
      by_cases hc0 : 0 < carry
      · have hkl : k = l.length := by
          rcases Nat.lt_or_ge l.length k with h | h
          · have := HCZ.out h; omega
          · omega
        have HKL := Lib.hid hkl
        clear hkl
        go_wp2_with (at_builtin; refine wp_push EU _ rfl _ _ rfl rfl rfl hown (by rfl) (by omega) (by omega) (by omega) ?_)
        intro A2 c2 w2 hown2 hgr2 hb2 hlt2
        go_wp2
        go_roundw
        case rel =>
          have h2 := hL.next2 (by rw [HZ.out]; omega)
          rw [HZ.out] at h2
          exact ⟨k + 1, _, _, _, _, by have := HKL.out; omega, h2, rfl, by go_num, by go_num, own_snoc hown2 (by omega), fun _ => by omega, hb.trans hb2⟩
        case measure => have := HKL.out; simp [intOf]; omega
      · obtain rfl : carry = 0 := by omega
        have hv : val o = val l := by
          have := hL.eq
          rw [Nat.mul_zero, Nat.add_zero, List.take_of_length_le (by omega)] at this
          exact this
        have hlen := hL.len
        have HV := Lib.hid hv
        have HN := Lib.hid hlen
        clear hv hlen
        have hown3 : Own wr (w.heap.size + 2) 208 A' o.length c' (ints .u32 o) := by rw [HN.out]; exact hown
        have HL := Own.lim hown3 (small_of_dig hL.dig)
        have hfr : ∀ g, g < w.heap.size → Avoid g A' o.length := fun g hg => Own.avoid hown3 (by omega)
        clear hown3
        go_wp2
        go_loopw [3] (fun s w2 => ∃ q : Nat, q ≤ k ∧ s = .slice A' q c' ∧ (∀ j, q ≤ j → at_ o j = 0) ∧ w2 = wr) (fun s _ => lenOf s)
        case atStart => exact ⟨k, Nat.le_refl _, rfl, fun j hj => at_ge (by rw [HN.out]; exact hj), rfl⟩
        case round =>
          obtain ⟨q, hq, rfl, hzz, rfl⟩ := hrel
          have HZZ := Lib.hid hzz
          clear hzz
          have hcap' := HL.cap
          have hcap2 : k ≤ c' := by have := HN.out; omega
          by_cases hq0 : 0 < q
          · obtain ⟨ad, rfl, _, hc⟩ := HL.cellAt (j := q - 1) (by have := HN.out; omega)
            by_cases hx0 : at_ o (q - 1) = 0
            · have hx' : ((at_ o (q - 1) : Nat) : Int) = 0 := by omega
              have HX0 := Lib.hid hx0
              clear hx0
              go_wp2
              go_roundw
              case rel => exact ⟨q - 1, by omega, by go_num, fun j hj => if e : j = q - 1 then e ▸ HX0.out else HZZ.out j (by omega), by first | rfl | trivial⟩
              case measure => simp [lenOf]; omega
            · have hx' : (((at_ o (q - 1) : Nat) : Int) == 0) = false := by rw [beq_eq_false_iff_ne]; omega
              have hc4 := HXr.cell 1 0 rfl rfl
              have hf4 := HXr.free 1 0 rfl
              go_wp2
              have hq4 := set_same (v := .slice (some ad) q c') hc4
              have htl : (trimL o).length = q := trimL_length (by rw [HN.out]; exact hq) HZZ.out (.inr hx0)
              have hdl : dig (val l) = trimL o := by rw [trimL_val hL.dig, HV.out]
              have hav := HL.trimL.avoid_blk (HXr.blk 1 rfl) (by simp [Value.noInt])
              exact bodyPost_ret (v := .agg #[.slice (some ad) q c']) (by simp [results, Tryz.results315, go_sem, hq4]) rfl ⟨some ad, c', ret_nat (by rw [hdl, htl]), by rw [hdl]; exact HL.trimL.setCell hav _, HXr.below.setCell (by simp) _, fun g hg => (hfr g hg).mono (by rw [hdl]; exact trimL_len o)⟩
          · have hc4 := HXr.cell 1 0 rfl rfl
            have hf4 := HXr.free 1 0 rfl
            go_wp2
            have hq4 := set_same (v := .slice A' q c') hc4
            have htl : (trimL o).length = q := trimL_length (by rw [HN.out]; exact hq) HZZ.out (.inl (by omega))
            have hdl : dig (val l) = trimL o := by rw [trimL_val hL.dig, HV.out]
            have hav := HL.trimL.avoid_blk (HXr.blk 1 rfl) (by simp [Value.noInt])
            exact bodyPost_ret (v := .agg #[.slice A' q c']) (by simp [results, Tryz.results315, go_sem, hq4]) rfl ⟨A', c', ret_nat (by rw [hdl, htl]), by rw [hdl]; exact HL.trimL.setCell hav _, HXr.below.setCell (by simp) _, fun g hg => (hfr g hg).mono (by rw [hdl]; exact trimL_len o)⟩

theorem rnorm_any (A : Option Addr) (n c : Nat) (l : List Nat) (w : World) (H : Lim w A c l) (hn : n = l.length) (hl : n ≤ 8589934592) :
    Calls Tryz.prog 315 #[.agg #[.slice A n c]] w (RetN w (val l)) := (rnorm_new A n c l w H hn hl).mono fun _ _ h => h.ret

set_option maxRecDepth 100000 in
theorem rof_any (n : Nat) (w : World) (hn : n / 1000000000 / 1000000000 ≤ 18) :
    Calls Tryz.prog 258 #[.int .u64 (n : Int)] w (RetN w n) := by
  obtain ⟨hv, hd⟩ := of_val (n := n) (by omega)
  have HV := Lib.hid hv
  clear hv
  go_enter Tryz.func258, Tryz.ntmps258
  go_wp2_with fail
  have HL := Lim.lit (w.alloc (.cells #[.slice none 0 0] 34)) 208 (l := [n % 1000000000, n / 1000000000 % 1000000000, n / 1000000000 / 1000000000]) (cs := #[.int .u32 ((n : Int) % 1000000000), .int .u32 ((n : Int) / 1000000000 % 1000000000), .int .u32 ((n : Int) / 1000000000 / 1000000000)]) (by simp [ints]) (small_of_dig hd) 3 (Nat.le_refl _)
  rw [show (w.alloc (.cells #[.slice none 0 0] 34)).heap.size = w.heap.size + 1 from by simp] at HL
  have HX := Bx.one w #[.slice none 0 0] 34
  refine (rnorm_any _ 3 3 _ _ HL rfl (by omega)).mono ?_
  rintro e w4 ⟨A4, c4, rfl, H4, hb4⟩
  rw [HV.out] at H4
  rw [HV.out]
  have HX2 := (HX.ext (below_alloc _ _)).ext hb4
  have hc4 := HX2.cell0 0 rfl rfl
  have hf4 := HX2.free0 0 rfl
  go_wp2
  have hav := H4.avoid_blk (HX2.blk0 rfl) (by simp [Value.noInt])
  have hq := set_same (v := .slice A4 (dig n).length c4) hc4
  exact bodyPost_ret (v := .agg #[.slice A4 (dig n).length c4]) (by simp [results, Tryz.results258, go_sem, hq]) rfl ⟨A4, c4, rfl, H4.setCell hav _, HX2.below.setCell (by simp) _⟩

set_option maxHeartbeats 400000 in
set_option maxRecDepth 100000 in
theorem rcmp_any (A B : Option Addr) (n m c d : Nat) (l r : List Nat) (w : World) (HA : Lim w A c l) (HB : Lim w B d r) (hn : n = l.length) (hm : m = r.length) (hl : n ≤ 1073741824) (hl2 : m ≤ 1073741824) :
    Calls Tryz.prog 360 #[.agg #[.slice A n c], .agg #[.slice B m d]] w fun e w' => e = .returned (.int .i64 (cmpI (val l) (val r))) ∧ Below w.heap.size w w' := by
  have hdl := dig_len_of HA.small hn
  have hdr := dig_len_of HB.small hm
  have HN := Lib.hid hn
  have HM := Lib.hid hm
  clear hn hm
  go_enter Tryz.func360, Tryz.ntmps360
  go_wp2_with fail
  have HX := Bx.two w #[.slice A n c] #[.slice B m d] 34 34
  refine (rnorm_any A n c l _ (HA.ext HX.below) HN.out (by omega)).mono ?_
  rintro e w1 ⟨A1, c1, rfl, H1, hb1⟩
  have HX1 := HX.ext hb1
  have hc0 := HX1.cell0 0 rfl rfl
  have hf0 := HX1.free0 0 rfl
  have hav1 := H1.avoid_blk (HX1.blk0 rfl) (by simp [Value.noInt])
  have H1' := H1.setCell (p := ⟨w.heap.size, 0, none⟩) hav1 (.slice A1 (dig (val l)).length c1)
  have HX2 : Bx w (w1.setCell ⟨w.heap.size, 0, none⟩ (.slice A1 (dig (val l)).length c1)) _ := HX1.set 0 0 rfl (.slice A1 (dig (val l)).length c1)
  have hc1 := HX2.cell 1 0 rfl rfl
  go_wp2_with fail
  refine (rnorm_any B m d r _ (HB.ext HX2.below) HM.out (by omega)).mono ?_
  rintro e w2 ⟨A2, c2, rfl, H2, hb2⟩
  have HX3 := HX2.ext hb2
  have H1 := H1'.ext hb2
  clear H1' hav1 hc0 hf0 hc1
  have hc1 := HX3.cell 1 0 rfl rfl
  have hf1 := HX3.free 1 0 rfl
  have hav1 := H1.avoid_blk (HX3.blk 1 rfl) (by simp [Value.noInt])
  have hav2 := H2.avoid_blk (HX3.blk 1 rfl) (by simp [Value.noInt])
  have H1' := H1.setCell (p := ⟨w.heap.size + 1, 0, none⟩) hav1 (.slice A2 (dig (val r)).length c2)
  have H2' := H2.setCell (p := ⟨w.heap.size + 1, 0, none⟩) hav2 (.slice A2 (dig (val r)).length c2)
  have HX4 := HX3.set 1 0 rfl (.slice A2 (dig (val r)).length c2)
  obtain ⟨W, hW⟩ : ∃ W, W = w2.setCell ⟨w.heap.size + 1, 0, none⟩ (.slice A2 (dig (val r)).length c2) := ⟨_, rfl⟩
  rw [← hW] at H1' H2' HX4
  go_upto_region 3 with fail
  rw [← hW]
  clear hW H1 H2 hav1 hav2 hc1 hf1 HX HX1 HX2 HX3 hb1 hb2
  have hx0 := HX4.cell0 0 rfl rfl
  have hx1 := HX4.cell 1 0 rfl rfl
  have HB4 := HX4.below
  clear HX4
  by_cases hlen : (dig (val l)).length = (dig (val r)).length
  · have hne : (((dig (val l)).length : Int) != ((dig (val r)).length : Int)) = false := by rw [hlen]; simp
    have HLEN := Lib.hid hlen
    clear hlen
    go_wp2
    go_loopw [5] (fun i wr => ∃ k q : Nat, k ≤ (dig (val l)).length ∧ i = .int .i64 ((k : Int) - 1) ∧ val l / pw k = val r / pw k ∧ wr = W.drewN q) (fun i _ => (intOf i + 1).toNat)
    case atStart => exact ⟨(dig (val l)).length, 0, Nat.le_refl _, rfl, by rw [div_len (val l) (Nat.le_refl _), div_len (val r) (by rw [HLEN.out]; exact Nat.le_refl _)], rfl⟩
    case round =>
      obtain ⟨k, q, hk, rfl, he, rfl⟩ := hrel
      have HE := Lib.hid he
      clear he
      by_cases hk0 : 0 < k
      · obtain ⟨j, rfl⟩ : ∃ j, k = j + 1 := ⟨k - 1, by omega⟩
        have hj : ((j + 1 : Nat) : Int) - 1 = j := by omega
        rw [hj]
        obtain ⟨ad, rfl, _, ha⟩ := H1'.cellAt (j := j) (by omega)
        obtain ⟨bd, rfl, _, hb⟩ := H2'.cellAt (j := j) (by have := HLEN.out; omega)
        have h1 : (j : Int) < (dig (val l)).length := by omega
        have h2 : (j : Int) < (dig (val r)).length := by have := HLEN.out; omega
        clear hj
        by_cases hlt : at_ (dig (val l)) j < at_ (dig (val r)) j
        · have hlt' : decide (((at_ (dig (val l)) j : Nat) : Int) < ((at_ (dig (val r)) j : Nat) : Int)) = true := by simp; exact hlt
          go_wp2
          go_quiet (fail)
          go_wp2
          go_ret
          exact ⟨ret_int (cmpI_lt (lt_of_at HE.out hlt)).symm, drew_below (drew_below HB4 _) _⟩
        · have hlt' : decide (((at_ (dig (val l)) j : Nat) : Int) < ((at_ (dig (val r)) j : Nat) : Int)) = false := by simp; omega
          by_cases hgt : at_ (dig (val r)) j < at_ (dig (val l)) j
          · have hgt' : decide (((at_ (dig (val r)) j : Nat) : Int) < ((at_ (dig (val l)) j : Nat) : Int)) = true := by simp; exact hgt
            go_wp2
            go_quiet (fail)
            go_wp2
            go_quiet (fail)
            go_wp2
            go_ret
            exact ⟨ret_int (cmpI_gt (lt_of_at HE.out.symm hgt)).symm, drew_below (drew_below (drew_below HB4 _) _) _⟩
          · have hgt' : decide (((at_ (dig (val r)) j : Nat) : Int) < ((at_ (dig (val l)) j : Nat) : Int)) = false := by simp; omega
            have hat : at_ (dig (val l)) j = at_ (dig (val r)) j := by omega
            have HAT := Lib.hid hat
            clear hat
            go_wp2
            go_quiet (fail)
            go_wp2
            go_quiet (fail)
            go_wp2
            go_roundw
            case rel => exact ⟨j, _, by omega, rfl, div_step HE.out HAT.out, by first | rfl | rw [World.drewN_drewN, World.drewN_drewN]⟩
            case measure => simp [intOf]
      · obtain rfl : k = 0 := by omega
        go_wp2
        go_ret
        refine ⟨ret_int (cmpI_eq ?_).symm, drew_below HB4 _⟩
        have := HE.out
        rwa [pw_zero, Nat.div_one, Nat.div_one] at this
  · have hne : (((dig (val l)).length : Int) != ((dig (val r)).length : Int)) = true := by rw [bne_iff_ne]; omega
    by_cases hlt : (dig (val l)).length < (dig (val r)).length
    · go_wp2
      go_ret
      exact ⟨ret_int (cmpI_lt (lt_of_len hlt)).symm, HB4⟩
    · go_wp2
      go_ret
      exact ⟨ret_int (cmpI_gt (lt_of_len (by omega))).symm, HB4⟩
end Go.Proofs.YtolkijelldlmeaaGreatDoor
