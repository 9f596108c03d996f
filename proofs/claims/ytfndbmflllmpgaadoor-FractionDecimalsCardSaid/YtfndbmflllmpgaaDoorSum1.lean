/- Sums of lists of fractions. -/
import Derived.Test.YtfndbmflllmpgaaDoorROps
namespace Go.Proofs.YtfndbmflllmpgaaDoor
open Go.RowKit Go.Proofs Go

def rsum (qs : List Rat) : Rat := qs.foldl (· + ·) 0
theorem rsum_succ {qs : List Rat} {k : Nat} {q : Rat} (h : qs[k]? = some q) : rsum (qs.take k) + q = rsum (qs.take (k + 1)) := by
  obtain ⟨hk, rfl⟩ := List.getElem?_eq_some_iff.1 h
  rw [List.take_succ_eq_append_getElem hk, rsum, rsum, List.foldl_append]; rfl
/-- the fractions of a list, and their numbers -/
structure FA (w : World) (fs : List FE) (qs : List Rat) : Prop where
  len : fs.length = qs.length
  fr : ∀ (i : Nat) (x : FE) (q : Rat), fs[i]? = some x → qs[i]? = some q → Fr w x.s x.A x.n x.c x.B x.m x.d q 6
theorem FA.ext {w w' : World} {fs : List FE} {qs : List Rat} (h : FA w fs qs) (hb : Below w.heap.size w w') : FA w' fs qs := ⟨h.len, fun i x q h1 h2 => (h.fr i x q h1 h2).ext hb⟩
theorem FS.ext {w w' : World} {A : Option Addr} {fs : List FE} (h : FS w A fs) (hb : Below w.heap.size w w') : FS w' A fs := fun h0 => by
  obtain ⟨ad, h1, h2, h3⟩ := h h0
  refine ⟨ad, h1, Nat.lt_of_lt_of_le h2 hb.size, fun i x hx => ?_⟩
  obtain ⟨a, b, c⟩ := h3 i x hx
  exact ⟨by rw [hb.cell (cell_lt a)]; exact a, by rw [hb.cell (cell_lt b)]; exact b, by rw [hb.cell (cell_lt c)]; exact c⟩
theorem rsum_sz {w : World} {fs : List FE} {qs : List Rat} (h : FA w fs qs) : ∀ k, k ≤ qs.length → Sz (rsum (qs.take k)) (1 + 8 * k)
  | 0, _ => sz_lit false (a := 0) (b := 1) (by omega) (by omega)
  | k + 1, hk => by
    have h1 := rsum_sz h k (by omega)
    have hx := h.fr k _ _ (List.getElem?_eq_getElem (by have := h.len; omega)) (List.getElem?_eq_getElem (show k < qs.length by omega))
    rw [← rsum_succ (List.getElem?_eq_getElem (show k < qs.length by omega))]
    exact (h1.add hx.sz).mono (by omega)

set_option maxHeartbeats 400000 in
set_option maxRecDepth 100000 in
theorem fsum_any (A : Option Addr) (n c : Nat) (fs : List FE) (qs : List Rat) (w : World) (H : FS w A fs) (HF : FA w fs qs) (hn : n = fs.length) (hl : n ≤ 20) :
    Calls Tryd.prog 37 #[.slice A n c] w (RetG w (rsum qs) 161) := by
  subst hn
  go_enter Tryd.func37, Tryd.ntmps37
  go_wp2_with fail
  refine (fof_h (x := 0) (y := 1) (j := 1) (u := rsum (qs.take 0)) (Lib.hid rfl) (rsum_sz HF 0 (by omega)) (by omega) (by omega) (by omega) (by omega)).mono ?_
  rintro e w1 ⟨A1, c1, B1, d1, rfl, F1, hb1⟩
  go_wp2_with fail
  have HX := ((BL.one w #[.bool false, .slice none 0 0, .slice none 0 0] 26).ext hb1).new #[.bool (sg (rsum (qs.take 0))), .slice A1 (dig (nu (rsum (qs.take 0)))).length c1, .slice B1 (dig (rsum (qs.take 0)).den).length d1] 26
  simp only [List.cons_append, List.nil_append] at HX
  have F1 := F1.ext (below_alloc w1 (.cells #[.bool (sg (rsum (qs.take 0))), .slice A1 (dig (nu (rsum (qs.take 0)))).length c1, .slice B1 (dig (rsum (qs.take 0)).den).length d1] 26))
  have hg1 : w.heap.size < w1.heap.size := Nat.lt_of_lt_of_le (by simp) hb1.size
  go_loopg [9] fs.length (fun k i wr => ∃ (j : Nat) (A2 : Option Addr) (c2 : Nat) (B2 : Option Addr) (d2 : Nat), j + k = fs.length ∧ i = .int .i64 (j : Int) ∧ Fc wr A2 c2 B2 d2 (rsum (qs.take j)) (1 + 8 * j) ∧ BL w wr [(w.heap.size, #[.bool false, .slice none 0 0, .slice none 0 0], 26), (w1.heap.size, #[.bool (sg (rsum (qs.take j))), .slice A2 (dig (nu (rsum (qs.take j)))).length c2, .slice B2 (dig (rsum (qs.take j)).den).length d2], 26)])
  case atStart => exact ⟨0, A1, c1, B1, d1, by omega, rfl, F1, HX⟩
  case round =>
    obtain ⟨j, A2, c2, B2, d2, hj, rfl, F2, HX⟩ := hrel
    by_cases hj0 : j < fs.length
    · have hjq : j < qs.length := HF.len ▸ hj0
      obtain ⟨ad, rfl, hb, hc⟩ := (H.ext HX.below) (by omega)
      obtain ⟨hc0, hc1, hc2⟩ := hc j _ (List.getElem?_eq_getElem hj0)
      have Fx := (HF.ext HX.below).fr j _ _ (List.getElem?_eq_getElem hj0) (List.getElem?_eq_getElem hjq)
      have Hu := Lib.hid (rsum_succ (List.getElem?_eq_getElem hjq))
      have zu := rsum_sz HF (j + 1) hjq
      clear hc
      generalize fs[j] = x at *
      generalize qs[j] = q at *
      obtain ⟨u, HU⟩ : ∃ u, Hid (rsum (qs.take (j + 1)) = u) := ⟨_, Lib.hid rfl⟩
      rw [HU.out] at Hu zu
      generalize rsum (qs.take j) = p at *
      clear H
      go_upto_region 5 with fail
      have hb2 := below_alloc wr (.cells #[.bool x.s, .slice x.A x.n x.c, .slice x.B x.m x.d] 26)
      replace HX := HX.new #[.bool x.s, .slice x.A x.n x.c, .slice x.B x.m x.d] 26
      simp only [List.cons_append, List.nil_append] at HX
      replace Fx := Fx.ext hb2
      replace F2 := F2.ext hb2
      clear hb2 hc0 hc1 hc2 hb
      generalize wr.alloc (.cells #[.bool x.s, .slice x.A x.n x.c, .slice x.B x.m x.d] 26) = W3 at *
      generalize wr.heap.size = g3 at *
      have hd0 := HX.cell 1 0 rfl rfl
      have hd1 := HX.cell 1 1 rfl rfl
      have hd2 := HX.cell 1 2 rfl rfl
      have he0 := HX.cell 2 0 rfl rfl
      have he1 := HX.cell 2 1 rfl rfl
      have he2 := HX.cell 2 2 rfl rfl
      simp only [List.getElem_toArray, List.getElem_cons_zero, List.getElem_cons_succ] at hd0 hd1 hd2 he0 he1 he2
      go_wp2_with fail
      refine (fadd_h Hu zu F2.fr Fx (by omega) (by omega)).mono ?_
      rintro e w4 ⟨A4, c4, B4, d4, rfl, F4, hb4⟩
      replace HX := HX.ext hb4
      clear hd0 hd1 hd2 he0 he1 he2 Fx F2
      have hd0 := HX.cell 1 0 rfl rfl
      have hd1 := HX.cell 1 1 rfl rfl
      have hd2 := HX.cell 1 2 rfl rfl
      simp only [List.getElem_toArray, List.getElem_cons_zero, List.getElem_cons_succ] at hd0 hd1 hd2
      have hf0 := HX.free 1 0 rfl
      have hf1 := HX.free 1 1 rfl
      have hf2 := HX.free 1 2 rfl
      go_wp2_with fail
      have hk := HX.keep3 1 rfl rfl rfl rfl (by omega) (.bool (sg u)) (.slice A4 (dig (nu u)).length c4) (.slice B4 (dig u.den).length d4)
      replace HX := (HX.take 2).put3 1 rfl (by omega) (by intro k q hk hne; match k, hk with | 0, hk => (simp at hk; subst hk; simp at hne ⊢; try omega) | 1, hk => (simp at hk; subst hk; simp at hne ⊢; try omega) | k + 2, hk => simp at hk) (.bool (sg u)) (.slice A4 (dig (nu u)).length c4) (.slice B4 (dig u.den).length d4)
      go_roundg (fs.length - (j + 1))
      case measure => omega
      case rel => exact ⟨j + 1, A4, c4, B4, d4, by omega, by go_num, by rw [HU.out]; exact F4.stay hk, by rw [HU.out]; exact HX⟩
    · have hjj : rsum (qs.take j) = rsum qs := by rw [List.take_of_length_le (by have := HF.len; omega)]
      have zz := F2.sz.mono (show 1 + 8 * j ≤ 161 by omega)
      rw [hjj] at F2 HX zz
      clear hjj
      have hd0 := HX.cell 1 0 rfl rfl
      have hd1 := HX.cell 1 1 rfl rfl
      have hd2 := HX.cell 1 2 rfl rfl
      have he0 := HX.cell 0 0 rfl rfl
      have he1 := HX.cell 0 1 rfl rfl
      have he2 := HX.cell 0 2 rfl rfl
      simp only [List.getElem_toArray, List.getElem_cons_zero, List.getElem_cons_succ] at hd0 hd1 hd2 he0 he1 he2
      have hf0 := HX.free 0 0 rfl
      have hf1 := HX.free 0 1 rfl
      have hf2 := HX.free 0 2 rfl
      go_wp2_with fail
      have hk := HX.keep3 0 rfl rfl rfl rfl (by omega) (.bool (sg (rsum qs))) (.slice A2 (dig (nu (rsum qs))).length c2) (.slice B2 (dig (rsum qs).den).length d2)
      replace HX := HX.put3 0 rfl (by omega) (by intro k q hk hne; match k, hk with | 0, hk => (simp at hk; subst hk; simp at hne ⊢; try omega) | 1, hk => (simp at hk; subst hk; simp at hne ⊢; try omega) | k + 2, hk => simp at hk) (.bool (sg (rsum qs))) (.slice A2 (dig (nu (rsum qs))).length c2) (.slice B2 (dig (rsum qs).den).length d2)
      replace F2 := F2.stay hk
      clear hk hd0 hd1 hd2 he0 he1 he2 hf0 hf1 hf2
      have hd0 := HX.cell 0 0 rfl rfl
      have hd1 := HX.cell 0 1 rfl rfl
      have hd2 := HX.cell 0 2 rfl rfl
      simp only [List.getElem_toArray, List.getElem_cons_zero, List.getElem_cons_succ] at hd0 hd1 hd2
      generalize ((wr.setCell ⟨w.heap.size, 0, none⟩ (.bool (sg (rsum qs)))).setCell ⟨w.heap.size, 1, none⟩ (.slice A2 (dig (nu (rsum qs))).length c2)).setCell ⟨w.heap.size, 2, none⟩ (.slice B2 (dig (rsum qs).den).length d2) = W9 at *
      exact bodyPost_ret (v := .agg #[.bool (sg (rsum qs)), .slice A2 (dig (nu (rsum qs))).length c2, .slice B2 (dig (rsum qs).den).length d2]) (by simp [results, Tryd.results37, go_sem, hd0, hd1, hd2]) rfl ⟨A2, c2, B2, d2, rfl, ⟨F2.num, F2.den, zz⟩, HX.below⟩
end Go.Proofs.YtfndbmflllmpgaaDoor
