/- The statement LabelShort: its walk. -/
import Derived.Test.YtlnajhochpbgpaaDoorLb10
import Derived.Test.YtlnajhochpbgpaaDoorTwo
namespace Go.Proofs.YtlnajhochpbgpaaDoor
open Go.RowKit Go.Proofs Go

theorem grp_rng (x : Int) (r : List Int) : ∀ (k : Nat) (y : Int), grp x y (rng (y + 1) (y + k) ++ r) = grp x (y + k) r
  | 0, y => by rw [rng_none (by omega)]; simp
  | k + 1, y => by
    rw [rng_cons (show y + 1 ≤ y + ((k + 1 : Nat) : Int) by omega), List.cons_append, grp, if_pos rfl]
    have := grp_rng x r k (y + 1)
    rw [show y + 1 + (k : Int) = y + ((k + 1 : Nat) : Int) by omega] at this
    exact this
theorem runs_rng {a z : Int} (h : a ≤ z) (r : List Int) : runsOf (rng a z ++ r) = grp a z r := by
  rw [rng_cons h, List.cons_append, runsOf]
  have := grp_rng a r (z - a).toNat a
  rwa [show a + ((z - a).toNat : Int) = z by omega] at this
theorem asc_rng {l : List Int} (hl : Asc l) : ∀ (k : Nat) (a : Int), 1 ≤ a → a + k ≤ 999 → (∀ y, l.head? = some y → a + k < y) → Asc (rng a (a + k) ++ l)
  | 0, a, h1, h2, h3 => by
    rw [show a + ((0 : Nat) : Int) = a by omega, rng_one]
    exact hl.cons ⟨h1, by omega⟩ (fun y hy => by have := h3 y hy; omega)
  | k + 1, a, h1, h2, h3 => by
    rw [rng_cons (by omega), List.cons_append]
    have ih := asc_rng hl k (a + 1) (by omega) (by omega) (fun y hy => by have := h3 y hy; omega)
    rw [show a + 1 + (k : Int) = a + ((k + 1 : Nat) : Int) by omega] at ih
    refine ih.cons ⟨h1, by omega⟩ (fun y hy => ?_)
    rw [rng_cons (by omega)] at hy
    simp at hy
    omega
/-- the list without its k-th number, as far as i -/
def partI (a k i : Int) : List Int := if i ≤ k then rng a (a + i - 1) else rng a (a + k - 1) ++ rng (a + k + 1) (a + i - 1)
theorem partI_skip {a k : Int} : partI a k (k + 1) = partI a k k := by
  rw [partI, partI, if_neg (by omega), if_pos (by omega), rng_none (show a + (k + 1) - 1 < a + k + 1 by omega), List.append_nil]
theorem partI_step {a k i : Int} (h : i ≠ k) (h0 : 0 ≤ i) (hk : 1 ≤ k) : partI a k (i + 1) = partI a k i ++ [a + i] := by
  rw [partI, partI]
  by_cases hi : i ≤ k
  · rw [if_pos (show i + 1 ≤ k by omega), if_pos hi]
    have := rng_snoc (a := a) (b := a + i - 1) (by omega)
    rw [show a + i - 1 + 1 = a + i by omega] at this
    rw [show a + (i + 1) - 1 = a + i by omega, this]
  · rw [if_neg (show ¬ i + 1 ≤ k by omega), if_neg hi]
    have := rng_snoc (a := a + k + 1) (b := a + i - 1) (by omega)
    rw [show a + i - 1 + 1 = a + i by omega] at this
    rw [show a + (i + 1) - 1 = a + i by omega, this, List.append_assoc]
theorem short_all {a n : Int} (h1 : 1 ≤ a) (h2 : a ≤ 900) (h3 : 3 ≤ n) (h4 : n ≤ 22) : PR (rng a (a + n - 1)) (dz a ++ 45 :: dz (a + n - 1)) 0 := by
  refine .inl ⟨rfl, ?_, ?_⟩
  · have := asc_rng Asc.nil (n - 1).toNat a h1 (by omega) (by simp)
    rw [List.append_nil, show a + ((n - 1).toNat : Int) = a + n - 1 by omega] at this
    exact this
  · have := runs_rng (a := a) (z := a + n - 1) (by omega) []
    rw [List.append_nil] at this
    rw [runsT, this, grp, List.map_cons, List.map_nil, joinT, runT, if_neg (by simp only []; omega)]
    simp [sepd]
theorem short_part {a n k : Int} (h1 : 1 ≤ a) (h2 : a ≤ 900) (h4 : n ≤ 22) (h5 : 1 ≤ k) (h6 : k ≤ n - 2) : PR (partI a k n) (runT (a, a + k - 1) ++ 44 :: 32 :: runT (a + k + 1, a + n - 1)) 0 := by
  have hr : runsOf (partI a k n) = [(a, a + k - 1), (a + k + 1, a + n - 1)] := by
    rw [partI, if_neg (by omega), runs_rng (by omega), rng_cons (by omega), grp, if_neg (by omega)]
    have := runs_rng (a := a + k + 1) (z := a + n - 1) (by omega) []
    rw [List.append_nil, rng_cons (by omega), runsOf, grp] at this
    rw [this]
  refine .inl ⟨rfl, ?_, ?_⟩
  · rw [partI, if_neg (by omega)]
    have e1 := asc_rng Asc.nil (n - k - 2).toNat (a + k + 1) (by omega) (by omega) (by simp)
    rw [List.append_nil, show a + k + 1 + ((n - k - 2).toNat : Int) = a + n - 1 by omega] at e1
    have e2 := asc_rng e1 (k - 1).toNat a h1 (by omega) (fun y hy => by rw [rng_cons (by omega)] at hy; simp at hy; omega)
    rwa [show a + ((k - 1).toNat : Int) = a + k - 1 by omega] at e2
  · rw [runsT, hr]; simp [joinT, sepd]
theorem short_ne {a n k : Int} (h1 : 1 ≤ a) (h2 : a ≤ 900) (h3 : 3 ≤ n) (h4 : n ≤ 22) (h5 : 1 ≤ k) (h6 : k ≤ n - 2) : dz a ++ 45 :: dz (a + n - 1) ≠ runT (a, a + k - 1) ++ 44 :: 32 :: runT (a + k + 1, a + n - 1) := fun e => by
  have hm : (44 : UInt8) ∈ dz a ++ 45 :: dz (a + n - 1) := by rw [e]; simp
  rcases List.mem_append.1 hm with m | m
  · exact dz_not rfl _ m
  · rcases List.mem_cons.1 m with m | m
    · cases m
    · exact dz_not rfl _ m
theorem short_one {a : Int} (h1 : 1 ≤ a) (h2 : a ≤ 900) : PR [a] (dz a) 0 := by
  refine .inl ⟨rfl, Asc.nil.cons ⟨h1, by omega⟩ (by simp), ?_⟩
  simp [runsT, runsOf, grp, joinT, sepd, runT]
theorem count_44 (p q : Int × Int) : (runT p ++ 44 :: 32 :: runT q).count 44 = 1 := by
  have h : ∀ p, (runT p).count 44 = 0 := fun p => List.count_eq_zero.2 (runT_all rfl (by decide))
  rw [List.count_append, List.count_cons, List.count_cons, h, h]; rfl
theorem IOwn.of {w : World} {B c n : Nat} {A : Option Addr} {l : List Int} (h : Own w B 3 A n c (icells l)) (hn : n = l.length) : IOwn w B A c l := by subst hn; exact h
theorem partI_len {a k i : Int} (h : 0 ≤ i) (hk : 1 ≤ k) : (partI a k i).length ≤ i.toNat := by
  rw [partI]
  split
  · rw [rng_len]; omega
  · rw [List.length_append, rng_len, rng_len]; omega
theorem count_step {T : List UInt8} {j : Nat} (h : j < T.length) : (T.take (j + 1)).count 44 = (T.take j).count 44 + (if T[j] = 44 then 1 else 0) := by
  rw [List.take_succ_eq_append_getElem h, List.count_append, List.count_singleton]
  by_cases hc : T[j] = 44 <;> simp [hc]
set_option maxHeartbeats 1000000 in
set_option maxRecDepth 100000 in
theorem lshort_any {f c h : Int} (w : World) (hE : Env w) (f0 : 0 ≤ f) (f1 : f ≤ 65535) (c0 : 0 ≤ c) (c1 : c ≤ 255) (h0 : 0 ≤ h) (h1 : h ≤ 255) :
    Calls Tryd.prog 9 #[.int .u16 f, .int .u8 c, .int .u8 h] w (RetB w true) := by
  go_enter Tryd.func9, Tryd.ntmps9
  go_wp2_with fail
  refine (lawake_any _ hE).mono ?_
  rintro e w1 ⟨rfl, hbo⟩
  go_upto_region 4 with fail
  generalize hn : 3 + c % 20 = n
  have n3 : 3 ≤ n := by omega
  have n22 : n ≤ 22 := by omega
  clear hn
  go_upto_region 5 with fail
  generalize ha : 1 + f % 900 = a
  have a1 : 1 ≤ a := by omega
  have a900 : a ≤ 900 := by omega
  clear ha
  have hn0 : n - 2 ≠ 0 := by omega
  have hmod : 0 ≤ h % (n - 2) ∧ h % (n - 2) < n - 2 := ⟨Int.emod_nonneg _ hn0, Int.emod_lt_of_pos _ (by omega)⟩
  obtain ⟨hm0, hm1⟩ := hmod
  go_upto_region 6 with fail
  generalize hk : 1 + h % (n - 2) = k
  have k1 : 1 ≤ k := by omega
  have kn : k ≤ n - 2 := by omega
  clear hk hm0 hm1 hn0
  go_wp2_with fail
  go_loopg [10, 11, 12] n.toNat (fun kk X Y I wr => ∃ (i : Nat) (A1 : Option Addr) (c1 : Nat) (L1 : List Int) (A2 : Option Addr) (c2 : Nat) (L2 : List Int), i + kk = n.toNat ∧ X = .slice A1 L1.length c1 ∧ Y = .slice A2 L2.length c2 ∧ I = .int .i64 (i : Int) ∧
    Hid (L1 = rng a (a + i - 1) ∧ L2 = partI a k i) ∧ IOwn wr w1.heap.size A1 c1 L1 ∧ IOwn wr w1.heap.size A2 c2 L2 ∧ Far A1 A2 ∧ Below w1.heap.size w1 wr)
  case atStart => exact ⟨0, none, 0, [], none, 0, [], by omega, rfl, rfl, rfl, Lib.hid ⟨(rng_none (by omega)).symm, by rw [partI, if_pos (by omega), rng_none (by omega)]⟩, IOwn.nil _ _, IOwn.nil _ _, Far.nil _, Below.refl _ _⟩
  case round =>
    obtain ⟨i, A1, c1, L1, A2, c2, L2, hi, rfl, rfl, rfl, hL, H1, H2, hfar, hbo1⟩ := hrel
    have hl1 : Hid (L1.length = i) := Lib.hid (by rw [hL.out.1, rng_len]; omega)
    have hl1b : L1.length ≤ 22 := by have := hl1.out; omega
    have hl2 : L2.length ≤ i := by have := partI_len (a := a) (k := k) (i := i) (by omega) k1; rw [hL.out.2]; omega
    by_cases hin : (i : Int) < n
    · have hbs := hbo1.size
      go_wp2_with (at_builtin; refine wp_push2 EI _ rfl _ _ rfl rfl rfl H1 (by rfl) (by omega) (by omega) hbs H2 hfar ?_)
      intro A3 c3 w3 hown3 hown2 hfar3 hbl hlt
      replace hown3 := IOwn.snoc hown3 rfl
      have hbo3 := hbo1.trans hbl
      clear hbl hlt H1 H2 hfar
      have hnl1 : L1 ++ [a + (i : Int)] = rng a (a + ((i + 1 : Nat) : Int) - 1) := by
        have := rng_snoc (a := a) (b := a + i - 1) (by omega)
        rw [show a + (i : Int) - 1 + 1 = a + i by omega] at this
        rw [show a + ((i + 1 : Nat) : Int) - 1 = a + i by omega, this, hL.out.1]
      by_cases hik : (i : Int) = k
      · have hikb : ((i : Int) != k) = false := by rw [bne_eq_false_iff_eq]; exact hik
        have HL2 : Hid (L1 ++ [a + (i : Int)] = rng a (a + ((i + 1 : Nat) : Int) - 1) ∧ L2 = partI a k ((i + 1 : Nat) : Int)) := Lib.hid ⟨hnl1, by rw [hL.out.2, show ((i + 1 : Nat) : Int) = k + 1 by omega, partI_skip, hik]⟩
        clear hnl1 hL hik
        go_wp2_with fail
        go_roundg (n.toNat - (i + 1))
        case measure => omega
        case rel => exact ⟨i + 1, A3, c3, L1 ++ [a + (i : Int)], A2, c2, L2, by omega, by first | (rw [List.length_append]; rfl) | simp [hl1.out], rfl, by go_num, HL2, hown3, hown2, hfar3, hbo3⟩
      · have hikb : ((i : Int) != k) = true := by rw [bne_iff_ne]; exact hik
        have HL2 : Hid (L1 ++ [a + (i : Int)] = rng a (a + ((i + 1 : Nat) : Int) - 1) ∧ L2 ++ [a + (i : Int)] = partI a k ((i + 1 : Nat) : Int)) := Lib.hid ⟨hnl1, by rw [hL.out.2, show ((i + 1 : Nat) : Int) = (i : Int) + 1 by omega, partI_step hik (by omega) k1]⟩
        clear hnl1 hL hik
        have hbs3 := hbo3.size
        go_wp2_with (at_builtin; refine wp_push2 EI _ rfl _ _ rfl rfl rfl hown2 (by rfl) (by omega) (by omega) hbs3 hown3 hfar3.symm ?_)
        intro A4 c4 w4 hown4 hown5 hfar4 hbl hlt
        replace hown4 := IOwn.snoc hown4 (by omega)
        have hbo4 := hbo3.trans hbl
        replace hown5 : IOwn w4 w1.heap.size A3 c3 (L1 ++ [a + (i : Int)]) := IOwn.of hown5 (by simp [hl1.out])
        clear hbl hlt hown3 hown2 hfar3
        go_wp2_with fail
        go_roundg (n.toNat - (i + 1))
        case measure => omega
        case rel => exact ⟨i + 1, A3, c3, L1 ++ [a + (i : Int)], A4, c4, L2 ++ [a + (i : Int)], by omega, by first | (rw [List.length_append]; rfl) | simp [hl1.out], by first | (rw [List.length_append]; rfl) | simp [hl1.out], by go_num, HL2, hown5, hown4, hfar4.symm, hbo4⟩
    · have hin2 : (i : Int) = n := by omega
      have P1 : PR L1 (dz a ++ 45 :: dz (a + n - 1)) 0 := by rw [hL.out.1, hin2]; exact short_all a1 a900 n3 n22
      have P2 : PR L2 (runT (a, a + k - 1) ++ 44 :: 32 :: runT (a + k + 1, a + n - 1)) 0 := by rw [hL.out.2, hin2]; exact short_part a1 a900 n22 k1 kn
      have hne := short_ne a1 a900 n3 n22 k1 kn
      have hcnt := count_44 (a, a + k - 1) (a + k + 1, a + n - 1)
      have hT1 : ∃ R, dz a ++ 45 :: dz (a + n - 1) = dz a ++ R := ⟨_, rfl⟩
      have hlt1 : (dz a).length < (dz a ++ 45 :: dz (a + n - 1)).length := by simp
      generalize dz a ++ 45 :: dz (a + n - 1) = T1 at *
      generalize runT (a, a + k - 1) ++ 44 :: 32 :: runT (a + k + 1, a + n - 1) = T2 at *
      have P3 := short_one a1 a900
      generalize dz a = T3 at *
      have htk : T1.take T3.length = T3 := by obtain ⟨R, rfl⟩ := hT1; simp
      have hsT1 : (str T1).size = T1.length := str_size T1
      have hsT2 : (str T2).size = T2.length := str_size T2
      have hsT3 : (str T3).size = T3.length := str_size T3
      have hlT1 := P1.len
      have hlT2 := P2.len
      have hlT3 := P3.len
      have hx3 : (str T1).extract 0 T3.length = str T3 := by rw [str_take, htk]
      have hse : ((str T3).toList == (str T3).toList) = true := beq_self_eq_true _
      have hsn : ((str T1).toList == (str T2).toList) = false := by
        rw [beq_eq_false_iff_ne]; intro he; rw [str_toList, str_toList] at he; exact hne he
      clear hne hT1 htk hL
      have HP1 := Lib.hid P1
      have HP2 := Lib.hid P2
      have HP3 := Lib.hid P3
      have HC := Lib.hid hcnt
      clear P1 P2 P3 hcnt
      go_wp2_with fail
      refine (lruns_any A1 c1 L1 _ (hE.ext (bel_trans hbo hbo1)).tab H1.es (by omega) HP1.out).mono ?_
      rintro e w5 ⟨rfl, hb⟩
      have hbo5 := bel_trans (bel_trans hbo hbo1) hb
      have H2' := H2.es.ext hb
      clear hb H1 H2 hbo1 HP1
      go_wp2_with fail
      refine (lruns_any A2 c2 L2 _ (hE.ext hbo5).tab H2' (by omega) HP2.out).mono ?_
      rintro e w6 ⟨rfl, hb⟩
      replace hbo5 := bel_trans hbo5 hb
      clear hb H2' HP2
      go_wp2_with fail
      go_loopg [17, 18] T2.length (fun k x y wr => ∃ j : Nat, j + k = T2.length ∧ x = .int .i64 (((T2.take j).count 44 : Nat) : Int) ∧ y = .int .i64 (j : Int) ∧ wr = w6)
      case atStart => exact ⟨0, by omega, by simp, rfl, rfl⟩
      case round =>
        obtain ⟨j, hj, rfl, rfl, rfl⟩ := hrel
        by_cases h0 : j < T2.length
        · have hix : ∀ h, (str T2)[j]'h = T2[j]'h0 := fun _ => rfl
          have hcs := Lib.hid (count_step h0)
          have hcl : (T2.take j).count 44 ≤ 8991 := Nat.le_trans List.count_le_length (by rw [List.length_take]; omega)
          generalize (T2.take j).count 44 = q at *
          generalize T2[j] = x at *
          by_cases hx : x = 44
          · subst hx
            have hnx : Hid (q + 1 = (T2.take (j + 1)).count 44) := Lib.hid (by have := hcs.out; simp at this; omega)
            clear hcs
            go_wp2_with fail
            go_roundg (T2.length - (j + 1))
            case measure => omega
            case rel => exact ⟨j + 1, by omega, by rw [← hnx.out]; go_num, by go_num, by first | rfl | trivial⟩
          · have hnx : Hid (q = (T2.take (j + 1)).count 44) := Lib.hid (by have := hcs.out; rw [if_neg hx] at this; omega)
            have hx2 : ¬ x.toNat = 44 := fun h => hx (UInt8.toNat_inj.1 h)
            clear hcs hx
            go_wp2_with fail
            go_roundg (T2.length - (j + 1))
            case measure => omega
            case rel => exact ⟨j + 1, by omega, by rw [← hnx.out], by go_num, by first | rfl | trivial⟩
        · have hq : (T2.take j).count 44 = 1 := by rw [List.take_of_length_le (by omega)]; exact HC.out
          rw [hq]
          clear hq HC
          go_wp2_with fail
          refine (rruns_any _ _ [a] _ (IEs.lit _ _ [a] _ rfl) (by simp) HP3.out).mono ?_
          rintro e w7 ⟨rfl, hb⟩
          replace hb := bel_trans (bel_al hbo5 _) hb
          clear hbo5 HP3
          go_wp2_with fail
          go_ret
          exact ⟨by first | rfl | simp, hb⟩
end Go.Proofs.YtlnajhochpbgpaaDoor
