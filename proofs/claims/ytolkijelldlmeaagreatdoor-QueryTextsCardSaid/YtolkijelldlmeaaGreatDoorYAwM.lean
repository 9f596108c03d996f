/- awake: the fixed results. -/
import Derived.Test.YtolkijelldlmeaaGreatDoorYScM
import Derived.Test.YtolkijelldlmeaaGreatDoorWSort
import Derived.Test.YtolkijelldlmeaaGreatDoorShelf
import Derived.Sort.OwnSortedInts
import Derived.Test.YtolkijelldlmeaaGreatDoorYPaM
namespace Go.Proofs.YtolkijelldlmeaaGreatDoor
open Go.RowKit Go.Proofs Go

open Go.Sort in
/-- slices.Sort over a row of the call's own -/
theorem isort_h {w : World} {B c : Nat} {A : Option Addr} {l : List Int} (h : IOwn w B A c l) (hl : l.length ≤ 1000000) :
    Calls Tryz.prog 89 #[.slice A l.length c] w fun e w' => e = .returned (.tuple #[]) ∧ IOwn w' B A c (srt l) ∧ Below B w w' := by
  have h0 := h
  unfold IOwn Own at h0
  rcases h0.2 with ⟨hv, hz⟩ | ⟨gb, cap, cur, hv, hbase, hgb, r1, r2, r3, r4⟩
  · injection hv with hA _ hc
    subst hA hc
    have hs : l = [] := List.eq_nil_of_length_eq_zero hz
    subst hs
    refine (Tryz.slices_Sort_int_none none 0 w).mono ?_
    rintro e w3 ⟨rfl, rfl⟩
    exact ⟨rfl, by rw [show srt [] = [] from List.eq_nil_of_length_eq_zero (srt_len [])]; exact h, Below.refl _ _⟩
  · injection hv with hA _ hc
    subst hA hc
    have hH : Holds (Value.int .i64) w gb 0 l.toArray := holds_of_blockI hgb (by simpa [icells] using r4)
    have hgl : gb < w.heap.size := (Array.getElem?_eq_some_iff.1 hgb).1
    have hsz : l.length < 4611686018427387904 := by omega
    refine (Tryz.slices_Sort_int gb 0 c l w hH hgl hsz).mono ?_
    rintro e w' ⟨rfl, nn, os, rfl⟩
    have h1 := ownsRow_sortedI (os := os) (n := nn) (ts := srt l) (ss := l) (srt_len l) hbase hgb r1 r2 r3
    refine ⟨rfl, ?_, below_of_grown (grownBy_sortedI _) (by omega) (fun k hk => by injection hk with hk; omega)⟩
    unfold IOwn Own
    rw [srt_len]; exact h1
/-- the numbers of those that satisfy a term -/
def selI (t : Tm) (l : List Sp) : List Int := (l.filter fun s => Tm.holds s.fld t).map Sp.id
def PSel (l : List Sp) (t : Tm) (L : List Int) (E : Int) : Prop := (ChkS l E ∧ E ≠ 0 ∧ L = []) ∨ (ChkS l 0 ∧ ¬ t.Ok ∧ L = [] ∧ E = 1) ∨ (ChkS l 0 ∧ t.Ok ∧ L = srt (selI t l) ∧ E = 0)
theorem PSel.ex (l : List Sp) (t : Tm) : ∃ L E, PSel l t L E := by
  obtain ⟨E, hE⟩ := ChkS.ex l
  by_cases h : E = 0
  · subst h
    by_cases hv : t.Ok
    · exact ⟨_, _, .inr (.inr ⟨hE, hv, rfl, rfl⟩)⟩
    · exact ⟨_, _, .inr (.inl ⟨hE, hv, rfl, rfl⟩)⟩
  · exact ⟨_, _, .inl ⟨hE, h, rfl⟩⟩
theorem PSel.uniq {l : List Sp} {t : Tm} {L M : List Int} {E F : Int} (h : PSel l t L E) (k : PSel l t M F) : L = M ∧ E = F := by
  rcases h with ⟨a, b, rfl⟩ | ⟨a, b, rfl, rfl⟩ | ⟨a, b, rfl, rfl⟩ <;> rcases k with ⟨a2, b2, rfl⟩ | ⟨a2, b2, rfl, rfl⟩ | ⟨a2, b2, rfl, rfl⟩
  · exact ⟨rfl, a.uniq a2⟩
  · exact absurd (a.uniq a2) b
  · exact absurd (a.uniq a2) b
  · exact absurd (a2.uniq a) b2
  · exact ⟨rfl, rfl⟩
  · exact absurd b2 b
  · exact absurd (a2.uniq a) b2
  · exact absurd b b2
  · exact ⟨rfl, rfl⟩
set_option maxHeartbeats 8000000 in
set_option maxRecDepth 100000 in
theorem qselect_any {L : List Int} {E : Int} (A : Option Addr) (c : Nat) (l : List Sp) (t : TT) (w : World) (H : SpS w A l) (hl : l.length ≤ 9223372036854775807) (HM : t.Mem w) (hS : Hid (PSel l t.tm L E)) :
    Calls Tryz.prog 25 #[.slice A l.length c, t.val] w (RetLw w L E) := by
  have HX := BL.one w #[.int .i64 t.k, .int .i64 t.f, .int .i64 t.o, .int .i64 t.v, .slice t.A t.ks.length t.c] 55
  have H0 := Lib.hid H
  have HM0 := Lib.hid HM
  replace H := H.ext HX.below
  replace HM := TT.Mem.ext HX.below HM
  obtain ⟨B, hB⟩ : ∃ B, Hid ((w.alloc (.cells #[.int .i64 t.k, .int .i64 t.f, .int .i64 t.o, .int .i64 t.v, .slice t.A t.ks.length t.c] 55)).heap.size = B) := ⟨_, Lib.hid rfl⟩
  have hB2 : B = w.heap.size + 1 := by rw [← hB.out]; simp
  obtain ⟨E0, hE0⟩ := ChkS.ex l
  have hchk := fun W (h : SpS W A l) => spcheck_any A c l W h hl (Lib.hid hE0)
  show Calls _ _ #[.slice A l.length c, .agg #[.int .i64 t.k, .int .i64 t.f, .int .i64 t.o, .int .i64 t.v, .slice t.A t.ks.length t.c]] w _
  go_enter Tryz.func25, Tryz.ntmps25
  go_upto_region 1 with fail
  generalize w.alloc (.cells #[.int .i64 t.k, .int .i64 t.f, .int .i64 t.o, .int .i64 t.v, .slice t.A t.ks.length t.c] 55) = V at *
  have hVB := hB.out
  by_cases he : E0 = 0
  · subst he
    by_cases hv : t.tm.Ok
    · obtain ⟨rfl, rfl⟩ := hS.out.uniq (.inr (.inr ⟨hE0, hv, rfl, rfl⟩))
      have hsv := Lib.hid (show l.length ≤ 64 ∧ ∀ x ∈ l, x.V by
        rcases hE0 with ⟨_, h⟩ | ⟨_, _, h⟩ | ⟨_, _, _, h⟩ | ⟨h1, h2, _, _⟩
        · cases h
        · cases h
        · cases h
        · exact ⟨h1, h2⟩)
      have hl64 := hsv.out.1
      have hwf := Lib.hid hv.1
      have yo := yes hv
      clear hS hE0 hv
      go_wp2_with fail
      refine (hchk V H).mono ?_
      rintro e w2 ⟨rfl, hb2⟩
      replace HX := HX.ext hb2
      replace HM := TT.Mem.ext hb2 HM
      replace H := H.ext hb2
      have hs2 := hb2.size
      clear hb2 hchk
      have hc00 := HX.cell 0 0 rfl rfl
      have hc01 := HX.cell 0 1 rfl rfl
      have hc02 := HX.cell 0 2 rfl rfl
      have hc03 := HX.cell 0 3 rfl rfl
      have hc04 := HX.cell 0 4 rfl rfl
      try simp only [List.getElem_toArray, List.getElem_cons_zero, List.getElem_cons_succ] at hc00 hc01 hc02 hc03 hc04
      go_wp2_with fail
      refine (qvalid_any t w2 HM yo).mono ?_
      rintro e w3 ⟨rfl, hb3⟩
      replace HX := HX.ext hb3
      replace HM := TT.Mem.ext hb3 HM
      replace H := H.ext hb3
      have hs3 := hb3.size
      clear hb3 hc00 hc01 hc02 hc03 hc04
      have hbs : B ≤ w3.heap.size := by omega
      go_wp2
      go_loopg [7, 20] l.length (fun g u i wr => ∃ (k : Nat) (A8 : Option Addr) (c8 : Nat) (out : List Int), k + g = l.length ∧ i = .int .i64 (k : Int) ∧ u = .slice A8 out.length c8 ∧ IOwn wr B A8 c8 out ∧ Hid (out = selI t.tm (l.take k)) ∧ out.length ≤ k ∧ BL w wr [(w.heap.size, #[.int .i64 t.k, .int .i64 t.f, .int .i64 t.o, .int .i64 t.v, .slice t.A t.ks.length t.c], 55)] ∧ B ≤ wr.heap.size)
      case atStart => exact ⟨0, none, 0, [], by omega, rfl, rfl, IOwn.nil _ _, Lib.hid rfl, Nat.le_refl _, HX, hbs⟩
      case round =>
        clear HX HM H hbs hs2 hs3
        obtain ⟨k, A8, c8, out, hk, rfl, rfl, HOWN, hout, hol, HX, hbs⟩ := hrel
        have H := H0.out.ext HX.below
        have HM := TT.Mem.ext HX.below HM0.out
        by_cases hk0 : k < l.length
        · obtain ⟨x, hx⟩ : ∃ x, Hid (l[k]? = some x) := ⟨_, Lib.hid (List.getElem?_eq_getElem hk0)⟩
          have hxm : x ∈ l := List.mem_of_getElem? hx.out
          have htk := Lib.hid (show l.take (k + 1) = l.take k ++ [x] by
            obtain ⟨hi, h2⟩ := List.getElem?_eq_some_iff.1 hx.out
            rw [List.take_succ_eq_append_getElem hi, h2])
          obtain ⟨ad, rfl, hbk, c0, c1, c2, c3, c4, c5, c6⟩ := H.at_ hx.out
          obtain ⟨q, hq⟩ : ∃ q, Hid (Tm.holds x.fld t.tm = q) := ⟨_, Lib.hid rfl⟩
          go_upto_region 10 with fail
          have hb := below_alloc wr (.cells #[.int .i64 x.id, .int .i64 x.ob, .int .i64 x.rv, .int .i64 x.os, .int .i64 x.rs, .int .i64 x.ax, .int .i64 x.wt] 40)
          have HXk := BL.one wr #[.int .i64 x.id, .int .i64 x.ob, .int .i64 x.rv, .int .i64 x.os, .int .i64 x.rs, .int .i64 x.ax, .int .i64 x.wt] 40
          replace HX := HX.ext hb
          replace HM := TT.Mem.ext hb HM
          replace H := H.ext hb
          replace HOWN := HOWN.ext hb
          replace hbs := Nat.le_trans hbs hb.size
          clear hb c0 c1 c2 c3 c4 c5 c6 hbk
          generalize wr.alloc (.cells #[.int .i64 x.id, .int .i64 x.ob, .int .i64 x.rv, .int .i64 x.os, .int .i64 x.rs, .int .i64 x.ax, .int .i64 x.wt] 40) = W1 at *
          generalize hg1e : wr.heap.size = g1 at *
          clear hg1e
          have hk0 := HXk.cell 0 0 rfl rfl
          have hk1 := HXk.cell 0 1 rfl rfl
          have hk2 := HXk.cell 0 2 rfl rfl
          have hk3 := HXk.cell 0 3 rfl rfl
          have hk4 := HXk.cell 0 4 rfl rfl
          have hk5 := HXk.cell 0 5 rfl rfl
          have hk6 := HXk.cell 0 6 rfl rfl
          simp only [List.getElem_toArray, List.getElem_cons_zero, List.getElem_cons_succ] at hk0 hk1 hk2 hk3 hk4 hk5 hk6
          have hkl := cell_lt hk0
          clear HXk
          have hc00 := HX.cell 0 0 rfl rfl
          have hc01 := HX.cell 0 1 rfl rfl
          have hc02 := HX.cell 0 2 rfl rfl
          have hc03 := HX.cell 0 3 rfl rfl
          have hc04 := HX.cell 0 4 rfl rfl
          try simp only [List.getElem_toArray, List.getElem_cons_zero, List.getElem_cons_succ] at hc00 hc01 hc02 hc03 hc04
          go_wp2_with fail
          refine (qholds_any x (hsv.out.2 x hxm) t W1 hwf.out HM).mono ?_
          rw [hq.out]
          rintro e w5 ⟨rfl, hb5⟩
          replace HX := HX.ext hb5
          replace HM := TT.Mem.ext hb5 HM
          replace H := H.ext hb5
          replace HOWN := HOWN.ext hb5
          replace hbs := Nat.le_trans hbs hb5.size
          replace hk0 : w5.cell? ⟨g1, 0, none⟩ = some (.int .i64 x.id) := cellup hb5 hk0
          clear hb5 hkl hk1 hk2 hk3 hk4 hk5 hk6 hc00 hc01 hc02 hc03 hc04
          cases q with
          | true =>
            have hout2 := Lib.hid (show out ++ [x.id] = selI t.tm (l.take (k + 1)) by rw [htk.out, selI, List.filter_append, List.map_append, ← selI, ← hout.out]; simp [hq.out])
            go_wp2_with (at_builtin; refine wp_push EI _ rfl _ _ rfl rfl rfl HOWN (by rfl) (by omega) (by omega) hbs ?_; intro A7 c7 w7 hown7 hgr hbl hlt)
            replace hown7 := IOwn.snoc hown7 rfl
            have HX7 := HX.low (by omega) (by intro i p hp; match i, hp with | 0, hp => (simp at hp; subst hp; simp; omega) | i + 1, hp => simp at hp) hbl
            go_roundg (l.length - (k + 1))
            case measure => omega
            case rel => exact ⟨k + 1, A7, c7, out ++ [x.id], by omega, by go_num, by rw [List.length_append]; rfl, hown7, hout2, by rw [List.length_append, List.length_singleton]; omega, HX7, by omega⟩
          | false =>
            have hout2 := Lib.hid (show out = selI t.tm (l.take (k + 1)) by rw [htk.out, selI, List.filter_append, List.map_append, ← selI, ← hout.out]; simp [hq.out])
            go_wp2
            go_roundg (l.length - (k + 1))
            case measure => omega
            case rel => exact ⟨k + 1, A8, c8, out, by omega, by go_num, rfl, HOWN, hout2, by omega, HX, hbs⟩
        · obtain rfl : k = l.length := by omega
          rw [List.take_length] at hout
          have hfin := Lib.hid (show srt out = srt (selI t.tm l) by rw [hout.out])
          have hll := Lib.hid (show (srt out).length = out.length from srt_len _)
          have hlo : out.length ≤ 1000000 := by omega
          go_wp2_with fail
          refine (isort_h HOWN hlo).mono ?_
          rintro e w6 ⟨rfl, HO6, hb6⟩
          have HX6 := HX.low (by omega) (by intro i p hp; match i, hp with | 0, hp => (simp at hp; subst hp; simp; omega) | i + 1, hp => simp at hp) hb6
          have hes := HO6.es
          rw [hfin.out] at hes hll
          clear hfin
          go_wp2
          go_ret2
          exact ⟨A8, c8, by rw [hll.out]; rfl, hes, HX6.below⟩
    · obtain ⟨rfl, rfl⟩ := hS.out.uniq (.inr (.inl ⟨hE0, hv, rfl, rfl⟩))
      have yo := no hv
      clear hS hE0 hv
      go_wp2_with fail
      refine (hchk V H).mono ?_
      rintro e w2 ⟨rfl, hb2⟩
      replace HX := HX.ext hb2
      replace HM := TT.Mem.ext hb2 HM
      clear hb2 hchk
      have hc00 := HX.cell 0 0 rfl rfl
      have hc01 := HX.cell 0 1 rfl rfl
      have hc02 := HX.cell 0 2 rfl rfl
      have hc03 := HX.cell 0 3 rfl rfl
      have hc04 := HX.cell 0 4 rfl rfl
      try simp only [List.getElem_toArray, List.getElem_cons_zero, List.getElem_cons_succ] at hc00 hc01 hc02 hc03 hc04
      go_wp2_with fail
      refine (qvalid_any t w2 HM yo).mono ?_
      rintro e w3 ⟨rfl, hb3⟩
      replace HX := HX.ext hb3
      go_wp2
      go_ret2
      exact ⟨none, 0, rfl, IEs.nil _ _, HX.below⟩
  · obtain ⟨rfl, rfl⟩ := hS.out.uniq (.inl ⟨hE0, he, rfl⟩)
    have he2 : (E != 0) = true := bne_iff_ne.2 he
    clear hS hE0 he
    go_wp2_with fail
    refine (hchk V H).mono ?_
    rintro e w2 ⟨rfl, hb2⟩
    replace HX := HX.ext hb2
    go_wp2
    go_ret2
    exact ⟨none, 0, rfl, IEs.nil _ _, HX.below⟩
end Go.Proofs.YtolkijelldlmeaaGreatDoor

namespace Go.Proofs.YtolkijelldlmeaaGreatDoor
open Go.RowKit Go.Proofs Go

namespace Tm
def s1 : List UInt8 := [114, 101, 118, 61, 55, 32, 111, 114, 32, 111, 98, 118, 32, 61, 32, 51, 32, 97, 110, 100, 32, 110, 111, 116, 32, 97, 120, 105, 115, 60, 50]
def s2 : List UInt8 := [105, 100, 32, 61, 32, 49, 32, 111, 114, 32, 40, 105, 100, 32, 61, 32, 50, 32, 111, 114, 32, 105, 100, 32, 61, 32, 51, 41]
def s3 : List UInt8 := [105, 100, 32, 61, 32, 48, 49]
def t1 : Tm := .mk 3 0 0 0 [.mk 1 3 1 7 [], .mk 2 0 0 0 [.mk 1 2 1 3 [], .mk 4 0 0 0 [.mk 1 6 3 2 []]]]
def t2 : Tm := .mk 3 0 0 0 [.mk 1 1 1 1 [], .mk 1 1 1 2 [], .mk 1 1 1 3 []]
theorem tok1 : tokR s1 = some [[114, 101, 118], [61], [55], [111, 114], [111, 98, 118], [61], [51], [97, 110, 100], [110, 111, 116], [97, 120, 105, 115], [60], [50]] := by simp [s1, tokR, isW, List.takeWhile, List.dropWhile]
theorem tok2 : tokR s2 = some [[105, 100], [61], [49], [111, 114], [40], [105, 100], [61], [50], [111, 114], [105, 100], [61], [51], [41]] := by simp [s2, tokR, isW, List.takeWhile, List.dropWhile]
theorem tok3 : tokR s3 = some [[105, 100], [61], [48, 49]] := by simp [s3, tokR, isW, List.takeWhile, List.dropWhile]
theorem nf7 : numF [55] = 7 := numF_of (n := 7) (by decide) (by decide) (by simp [dz, Lib.decDigits])
theorem nf3 : numF [51] = 3 := numF_of (n := 3) (by decide) (by decide) (by simp [dz, Lib.decDigits])
theorem nf2 : numF [50] = 2 := numF_of (n := 2) (by decide) (by decide) (by simp [dz, Lib.decDigits])
theorem nf1 : numF [49] = 1 := numF_of (n := 1) (by decide) (by decide) (by simp [dz, Lib.decDigits])
theorem nf01 : numF [48, 49] = -1 := by
  rw [numF, if_neg]
  intro h
  have := numeral_head h.1
  simp at this
set_option maxRecDepth 20000 in
theorem rd1 : readT [[114, 101, 118], [61], [55], [111, 114], [111, 98, 118], [61], [51], [97, 110, 100], [110, 111, 116], [97, 120, 105, 115], [60], [50]] = some t1 := by simp [readT, listT, fL, listF, itemsF, partF, moreF, cmpF, place, fieldL, signL, nf7, nf3, nf2, joined, flat, wNot, wL, wOr, wAnd, word, kindL, t1, List.idxOf_cons, kind]
set_option maxRecDepth 20000 in
theorem rd2 : readT [[105, 100], [61], [49], [111, 114], [40], [105, 100], [61], [50], [111, 114], [105, 100], [61], [51], [41]] = some t2 := by simp [readT, listT, fL, listF, itemsF, partF, moreF, closeF, cmpF, place, fieldL, signL, nf3, nf2, nf1, joined, flat, wNot, wL, wR, wOr, wAnd, word, kindL, t2, kind, kids]
theorem rd3 : readT [[105, 100], [61], [48, 49]] = none := by simp [readT, listT, fL, listF, itemsF, partF, moreF, cmpF, place, fieldL, signL, nf01, joined, wNot, wL, wOr, wAnd, word, kindL]
theorem sh1 (f o v : Int) (h : 1 ≤ f ∧ f ≤ 7 ∧ 1 ≤ o ∧ o ≤ 6 ∧ 0 ≤ v ∧ v ≤ 999999) : shape 1 f o v [] := .inl ⟨rfl, h.1, h.2.1, h.2.2.1, h.2.2.2.1, h.2.2.2.2.1, h.2.2.2.2.2, rfl⟩
theorem ok1 : Ok t1 := by
  refine ⟨?_, by decide, by decide⟩
  simp only [t1, wf, wfL, and_true]
  refine ⟨.inr (.inl ⟨by decide, rfl, rfl, rfl, by decide, fun t ht => ?_⟩), sh1 _ _ _ (by decide), .inr (.inl ⟨by decide, rfl, rfl, rfl, by decide, fun t ht => ?_⟩), sh1 _ _ _ (by decide), .inr (.inr ⟨rfl, rfl, rfl, rfl, rfl⟩), sh1 _ _ _ (by decide)⟩
  · simp at ht
    rcases ht with rfl | rfl <;> decide
  · simp at ht
    rcases ht with rfl | rfl <;> decide
theorem ok2 : Ok t2 := by
  refine ⟨?_, by decide, by decide⟩
  simp only [t2, wf, wfL, and_true]
  refine ⟨.inr (.inl ⟨by decide, rfl, rfl, rfl, by decide, fun t ht => ?_⟩), sh1 _ _ _ (by decide), sh1 _ _ _ (by decide), sh1 _ _ _ (by decide)⟩
  simp at ht
  rcases ht with rfl | rfl | rfl <;> decide
theorem pq1 : PQ s1 t1 0 := .inr (.inr ⟨by decide, _, tok1, .inr ⟨_, rd1, .inr ⟨ok1, rfl, rfl⟩⟩⟩)
theorem pq2 : PQ s2 t2 0 := .inr (.inr ⟨by decide, _, tok2, .inr ⟨_, rd2, .inr ⟨ok2, rfl, rfl⟩⟩⟩)
theorem pq3 : PQ s3 (.mk 0 0 0 0 []) 3 := .inr (.inr ⟨by decide, _, tok3, .inl ⟨rd3, rfl, rfl⟩⟩)
def x1 : List UInt8 := [114, 101, 118, 32, 61, 32, 55, 32, 111, 114, 32, 111, 98, 118, 32, 61, 32, 51, 32, 97, 110, 100, 32, 110, 111, 116, 32, 97, 120, 105, 115, 32, 60, 32, 50]
def x2 : List UInt8 := [114, 101, 118, 32, 33, 61, 32, 55, 32, 97, 110, 100, 32, 40, 111, 98, 118, 32, 33, 61, 32, 51, 32, 111, 114, 32, 97, 120, 105, 115, 32, 60, 32, 50, 41]
def x3 : List UInt8 := [114, 101, 118, 32, 61, 32, 55, 32, 111, 114, 32, 111, 98, 118, 32, 61, 32, 51, 32, 97, 110, 100, 32, 97, 120, 105, 115, 32, 62, 61, 32, 50]
theorem de7 : Lib.decDigits 7 = [55] := by simp [Lib.decDigits]
theorem de3 : Lib.decDigits 3 = [51] := by simp [Lib.decDigits]
theorem de2 : Lib.decDigits 2 = [50] := by simp [Lib.decDigits]
theorem tx1 : text t1 = x1 := by simp [t1, text, textO, textA, textN, parB, nth, fieldL, signL, de7, de3, de2, kind, wNot, wAnd, wOr, x1]
theorem nn1 : norm t1 true = .mk 2 0 0 0 [.mk 1 3 2 7 [], .mk 3 0 0 0 [.mk 1 2 2 3 [], .mk 1 6 3 2 []]] := by simp [t1, norm, normL, normH, joined, flat, turn, opp, kind]
theorem nn0 : norm t1 false = .mk 3 0 0 0 [.mk 1 3 1 7 [], .mk 2 0 0 0 [.mk 1 2 1 3 [], .mk 1 6 6 2 []]] := by simp [t1, norm, normL, normH, joined, flat, turn, opp, kind]
theorem tx2 : text (norm t1 true) = x2 := by rw [nn1]; simp [text, textO, textA, parB, nth, fieldL, signL, de7, de3, de2, kind, wAnd, wOr, x2]
theorem tx3 : text (norm t1 false) = x3 := by rw [nn0]; simp [text, textO, textA, parB, nth, fieldL, signL, de7, de3, de2, kind, wAnd, wOr, x3]
theorem sz1 : size t1 = 6 := by decide
end Tm
/-- the fixed specimen -/
def sp1 : Sp := ⟨17, 3, 12, 2, 1, 6, 16820⟩
theorem sp1_v : sp1.V := by unfold Sp.V sp1; decide
theorem hd1 : Tm.holds sp1.fld Tm.t1 = true := by decide
theorem hd2 : Tm.holds sp1.fld (Tm.norm Tm.t1 true) = false := by rw [Tm.nn1]; decide
theorem sel1 : PSel [sp1] Tm.t1 [17] 0 := .inr (.inr ⟨.inr (.inr (.inr ⟨by decide, fun x hx => by rw [List.mem_singleton.1 hx]; exact sp1_v, by simp, rfl⟩)), Tm.ok1, by
  have : selI Tm.t1 [sp1] = [17] := by rw [selI, List.filter_cons, if_pos hd1]; rfl
  rw [this]
  exact srt_unique (List.Perm.refl _) (by simp), rfl⟩)
end Go.Proofs.YtolkijelldlmeaaGreatDoor

namespace Go.Proofs.YtolkijelldlmeaaGreatDoor
open Go.RowKit Go.Proofs Go

theorem SpS.lit1 (W : World) : SpS (W.alloc (.cells #[.int .i64 17, .int .i64 3, .int .i64 12, .int .i64 2, .int .i64 1, .int .i64 6, .int .i64 16820] 40)) (some ⟨W.heap.size, 0, none⟩) [sp1] := fun _ => by
  refine ⟨_, rfl, by simp, fun i x hx => ?_⟩
  match i, hx with
  | 0, hx =>
    simp at hx
    subst hx
    exact ⟨al_at rfl _ rfl, al_at rfl _ rfl, al_at rfl _ rfl, al_at rfl _ rfl, al_at rfl _ rfl, al_at rfl _ rfl, al_at rfl _ rfl⟩
  | i + 1, hx => simp at hx
set_option maxHeartbeats 16000000 in
set_option maxRecDepth 100000 in
theorem qawake_any (w : World) (hE : Env w) : Calls Tryz.prog 31 #[] w (RetB w true) := by
  have HX := BL.nil w
  go_enter Tryz.func31, Tryz.ntmps31
  go_wp2_with fail
  refine (qparse_any (L := Tm.s1) w (Lib.hid Tm.pq1) hE (by decide)).mono ?_
  rintro e w1 ⟨t, he, htm, htt, hb⟩
  obtain ⟨kt, ft, ot, vt, At, ct, ts⟩ := t
  change e = .returned (.tuple #[.agg #[.int .i64 kt, .int .i64 ft, .int .i64 ot, .int .i64 vt, .slice At ts.length ct], .int .i64 0]) at he
  subst he
  replace HX := HX.ext hb
  replace hE := hE.ext hb
  clear hb
  go_upto_region 2 with fail
  have hb := below_alloc w1 (.cells #[.int .i64 kt, .int .i64 ft, .int .i64 ot, .int .i64 vt, .slice At ts.length ct] 55)
  replace HX := HX.new #[.int .i64 kt, .int .i64 ft, .int .i64 ot, .int .i64 vt, .slice At ts.length ct] 55
  simp only [List.nil_append] at HX
  replace hE := hE.ext hb
  replace htm := htm.ext hb
  clear hb
  generalize w1.alloc (.cells #[.int .i64 kt, .int .i64 ft, .int .i64 ot, .int .i64 vt, .slice At ts.length ct] 55) = W1 at *
  generalize w1.heap.size = g1 at *
  have hc00 := HX.cell 0 0 rfl rfl
  have hc01 := HX.cell 0 1 rfl rfl
  have hc02 := HX.cell 0 2 rfl rfl
  have hc03 := HX.cell 0 3 rfl rfl
  have hc04 := HX.cell 0 4 rfl rfl
  try simp only [List.getElem_toArray, List.getElem_cons_zero, List.getElem_cons_succ] at hc00 hc01 hc02 hc03 hc04
  go_wp2_with fail
  refine (qneg_any (TT.mk kt ft ot vt At ct ts) W1 htm (Lib.hid (.inl ⟨by rw [htt]; exact Tm.ok1, rfl, rfl⟩))).mono ?_
  rintro e w2 ⟨n, he, hnm, hnt, hb⟩
  obtain ⟨kn, fn, on, vn, An, cn, ns⟩ := n
  change e = .returned (.tuple #[.agg #[.int .i64 kn, .int .i64 fn, .int .i64 on, .int .i64 vn, .slice An ns.length cn], .int .i64 0]) at he
  subst he
  clear hc00 hc01 hc02 hc03 hc04
  replace HX := HX.ext hb
  replace hE := hE.ext hb
  replace htm := htm.ext hb
  clear hb
  go_upto_region 3 with fail
  have hb := below_alloc w2 (.cells #[.int .i64 kn, .int .i64 fn, .int .i64 on, .int .i64 vn, .slice An ns.length cn] 55)
  replace HX := HX.new #[.int .i64 kn, .int .i64 fn, .int .i64 on, .int .i64 vn, .slice An ns.length cn] 55
  simp only [List.nil_append, List.cons_append] at HX
  replace hE := hE.ext hb
  replace htm := htm.ext hb
  replace hnm := hnm.ext hb
  clear hb
  generalize w2.alloc (.cells #[.int .i64 kn, .int .i64 fn, .int .i64 on, .int .i64 vn, .slice An ns.length cn] 55) = W2 at *
  generalize w2.heap.size = g2 at *
  go_wp2_with fail
  refine (qparse_any (L := Tm.s2) W2 (Lib.hid Tm.pq2) hE (by decide)).mono ?_
  rintro e w3 ⟨u, he, hum, hut, hb⟩
  obtain ⟨ku, fu, ou, vu, Au, cu, us⟩ := u
  change e = .returned (.tuple #[.agg #[.int .i64 ku, .int .i64 fu, .int .i64 ou, .int .i64 vu, .slice Au us.length cu], .int .i64 0]) at he
  subst he
  replace HX := HX.ext hb
  replace hE := hE.ext hb
  replace htm := htm.ext hb
  replace hnm := hnm.ext hb
  clear hb
  go_upto_region 4 with fail
  have hb := below_alloc w3 (.cells #[.int .i64 ku, .int .i64 fu, .int .i64 ou, .int .i64 vu, .slice Au us.length cu] 55)
  replace HX := HX.new #[.int .i64 ku, .int .i64 fu, .int .i64 ou, .int .i64 vu, .slice Au us.length cu] 55
  simp only [List.nil_append, List.cons_append] at HX
  replace hE := hE.ext hb
  replace htm := htm.ext hb
  replace hnm := hnm.ext hb
  replace hum := hum.ext hb
  clear hb
  generalize w3.alloc (.cells #[.int .i64 ku, .int .i64 fu, .int .i64 ou, .int .i64 vu, .slice Au us.length cu] 55) = W3 at *
  generalize w3.heap.size = g3 at *
  go_wp2_with fail
  refine (qparse_any (L := Tm.s3) W3 (Lib.hid Tm.pq3) hE (by decide)).mono ?_
  rintro e w4 ⟨z, he, hzm, hzt, hb⟩
  obtain ⟨kz, fz, oz, vz, Az, cz, zs⟩ := z
  change e = .returned (.tuple #[.agg #[.int .i64 kz, .int .i64 fz, .int .i64 oz, .int .i64 vz, .slice Az zs.length cz], .int .i64 3]) at he
  subst he
  replace HX := HX.ext hb
  replace hE := hE.ext hb
  replace htm := htm.ext hb
  replace hnm := hnm.ext hb
  replace hum := hum.ext hb
  clear hb
  go_upto_region 5 with fail
  have hb := below_alloc w4 (.cells #[.int .i64 kz, .int .i64 fz, .int .i64 oz, .int .i64 vz, .slice Az zs.length cz] 55)
  replace HX := HX.new #[.int .i64 kz, .int .i64 fz, .int .i64 oz, .int .i64 vz, .slice Az zs.length cz] 55
  simp only [List.nil_append, List.cons_append] at HX
  replace hE := hE.ext hb
  replace htm := htm.ext hb
  replace hnm := hnm.ext hb
  replace hum := hum.ext hb
  replace hzm := hzm.ext hb
  clear hb
  generalize w4.alloc (.cells #[.int .i64 kz, .int .i64 fz, .int .i64 oz, .int .i64 vz, .slice Az zs.length cz] 55) = W4 at *
  generalize w4.heap.size = g4 at *
  have hc00 := HX.cell 0 0 rfl rfl
  have hc01 := HX.cell 0 1 rfl rfl
  have hc02 := HX.cell 0 2 rfl rfl
  have hc03 := HX.cell 0 3 rfl rfl
  have hc04 := HX.cell 0 4 rfl rfl
  try simp only [List.getElem_toArray, List.getElem_cons_zero, List.getElem_cons_succ] at hc00 hc01 hc02 hc03 hc04
  go_wp2_with fail
  refine (qnorm_any (TT.mk kt ft ot vt At ct ts) W4 htm (Lib.hid (.inl ⟨by rw [htt]; exact Tm.ok1, rfl, rfl⟩))).mono ?_
  rintro e w5 ⟨m, he, hmm, hmt, hb⟩
  obtain ⟨km, fm, om, vm, Am, cm, ms⟩ := m
  change e = .returned (.tuple #[.agg #[.int .i64 km, .int .i64 fm, .int .i64 om, .int .i64 vm, .slice Am ms.length cm], .int .i64 0]) at he
  subst he
  clear hc00 hc01 hc02 hc03 hc04
  replace HX := HX.ext hb
  replace hE := hE.ext hb
  replace htm := htm.ext hb
  replace hnm := hnm.ext hb
  replace hum := hum.ext hb
  replace hzm := hzm.ext hb
  clear hb
  go_upto_region 6 with fail
  have hb := below_alloc w5 (.cells #[.int .i64 km, .int .i64 fm, .int .i64 om, .int .i64 vm, .slice Am ms.length cm] 55)
  replace HX := HX.new #[.int .i64 km, .int .i64 fm, .int .i64 om, .int .i64 vm, .slice Am ms.length cm] 55
  simp only [List.nil_append, List.cons_append] at HX
  replace hE := hE.ext hb
  replace htm := htm.ext hb
  replace hnm := hnm.ext hb
  replace hum := hum.ext hb
  replace hzm := hzm.ext hb
  replace hmm := hmm.ext hb
  clear hb
  generalize w5.alloc (.cells #[.int .i64 km, .int .i64 fm, .int .i64 om, .int .i64 vm, .slice Am ms.length cm] 55) = W5 at *
  generalize w5.heap.size = g5 at *
  replace htt := Lib.hid htt
  replace hnt := Lib.hid (hnt.trans (by rw [htt.out]))
  replace hmt := Lib.hid (hmt.trans (by rw [htt.out]))
  have hul : us.length = 3 := by
    have h := congrArg (fun x => (Tm.kids x).length) hut
    change (TT.tmL us).length = 3 at h
    rw [TT.tmL_map, List.length_map] at h
    exact h
  clear hut hzt
  go_upto_region 7 with fail
  have hb := below_alloc W5 (.cells #[.int .i64 17, .int .i64 3, .int .i64 12, .int .i64 2, .int .i64 1, .int .i64 6, .int .i64 16820] 40)
  replace HX := HX.new #[.int .i64 17, .int .i64 3, .int .i64 12, .int .i64 2, .int .i64 1, .int .i64 6, .int .i64 16820] 40
  simp only [List.nil_append, List.cons_append] at HX
  replace hE := hE.ext hb
  replace htm := htm.ext hb
  replace hnm := hnm.ext hb
  replace hum := hum.ext hb
  replace hzm := hzm.ext hb
  replace hmm := hmm.ext hb
  clear hb
  generalize W5.alloc (.cells #[.int .i64 17, .int .i64 3, .int .i64 12, .int .i64 2, .int .i64 1, .int .i64 6, .int .i64 16820] 40) = W6 at *
  generalize W5.heap.size = g6 at *
  have hc50 := HX.cell 5 0 rfl rfl
  have hc51 := HX.cell 5 1 rfl rfl
  have hc52 := HX.cell 5 2 rfl rfl
  have hc53 := HX.cell 5 3 rfl rfl
  have hc54 := HX.cell 5 4 rfl rfl
  have hc55 := HX.cell 5 5 rfl rfl
  have hc56 := HX.cell 5 6 rfl rfl
  try simp only [List.getElem_toArray, List.getElem_cons_zero, List.getElem_cons_succ] at hc50 hc51 hc52 hc53 hc54 hc55 hc56
  have hc00 := HX.cell 0 0 rfl rfl
  have hc01 := HX.cell 0 1 rfl rfl
  have hc02 := HX.cell 0 2 rfl rfl
  have hc03 := HX.cell 0 3 rfl rfl
  have hc04 := HX.cell 0 4 rfl rfl
  try simp only [List.getElem_toArray, List.getElem_cons_zero, List.getElem_cons_succ] at hc00 hc01 hc02 hc03 hc04
  have HSL := SpS.lit1 W6
  have hb0 := below_alloc W6 (.cells #[.int .i64 17, .int .i64 3, .int .i64 12, .int .i64 2, .int .i64 1, .int .i64 6, .int .i64 16820] 40)
  have HXS := HX.ext hb0
  have htmS := htm.ext hb0
  have hk : ∀ {q : Addr} {v : Value}, W6.cell? q = some v → (W6.alloc (.cells #[.int .i64 17, .int .i64 3, .int .i64 12, .int .i64 2, .int .i64 1, .int .i64 6, .int .i64 16820] 40)).cell? q = some v := fun h => al_old h
  go_wp2_with fail
  refine (qselect_any (some ⟨W6.heap.size, 0, none⟩) 1 [sp1] (TT.mk kt ft ot vt At ct ts) _ HSL (by decide) htmS (Lib.hid (htt.out ▸ sel1))).mono ?_
  rintro e w7 ⟨AL, cL, rfl, HIL, hb⟩
  clear HSL HXS htmS hk
  replace hb := bel_trans hb0 hb
  clear hb0 hc50 hc51 hc52 hc53 hc54 hc55 hc56 hc00 hc01 hc02 hc03 hc04
  replace HX := HX.ext hb
  replace hE := hE.ext hb
  replace htm := htm.ext hb
  replace hnm := hnm.ext hb
  replace hum := hum.ext hb
  replace hzm := hzm.ext hb
  replace hmm := hmm.ext hb
  clear hb
  have hx1 : ((str Tm.x1).toList == [114, 101, 118, 32, 61, 32, 55, 32, 111, 114, 32, 111, 98, 118, 32, 61, 32, 51, 32, 97, 110, 100, 32, 110, 111, 116, 32, 97, 120, 105, 115, 32, 60, 32, 50]) = true := by rw [str_toList]; rfl
  have hx2 : ((str Tm.x2).toList == [114, 101, 118, 32, 33, 61, 32, 55, 32, 97, 110, 100, 32, 40, 111, 98, 118, 32, 33, 61, 32, 51, 32, 111, 114, 32, 97, 120, 105, 115, 32, 60, 32, 50, 41]) = true := by rw [str_toList]; rfl
  have hx3 : ((str Tm.x3).toList == [114, 101, 118, 32, 61, 32, 55, 32, 111, 114, 32, 111, 98, 118, 32, 61, 32, 51, 32, 97, 110, 100, 32, 97, 120, 105, 115, 32, 62, 61, 32, 50]) = true := by rw [str_toList]; rfl
  have hc00 := HX.cell 0 0 rfl rfl
  have hc01 := HX.cell 0 1 rfl rfl
  have hc02 := HX.cell 0 2 rfl rfl
  have hc03 := HX.cell 0 3 rfl rfl
  have hc04 := HX.cell 0 4 rfl rfl
  try simp only [List.getElem_toArray, List.getElem_cons_zero, List.getElem_cons_succ] at hc00 hc01 hc02 hc03 hc04
  go_wp2_with fail
  refine (qtext_any (T := Tm.x1) (TT.mk kt ft ot vt At ct ts) w7 htm hE.tab (Lib.hid (.inl ⟨by rw [htt.out]; exact Tm.ok1, by rw [htt.out]; exact Tm.tx1⟩))).mono ?_
  rintro e w8 ⟨rfl, hb⟩
  clear hc00 hc01 hc02 hc03 hc04
  replace HX := HX.ext hb
  replace hE := hE.ext hb
  replace htm := htm.ext hb
  replace hnm := hnm.ext hb
  replace hum := hum.ext hb
  replace hzm := hzm.ext hb
  replace hmm := hmm.ext hb
  replace HIL := HIL.ext hb
  clear hb
  have hc00 := HX.cell 0 0 rfl rfl
  have hc01 := HX.cell 0 1 rfl rfl
  have hc02 := HX.cell 0 2 rfl rfl
  have hc03 := HX.cell 0 3 rfl rfl
  have hc04 := HX.cell 0 4 rfl rfl
  try simp only [List.getElem_toArray, List.getElem_cons_zero, List.getElem_cons_succ] at hc00 hc01 hc02 hc03 hc04
  go_wp2_with fail
  refine (qSize_any (n := 6) (TT.mk kt ft ot vt At ct ts) w8 htm (Lib.hid (.inl ⟨by rw [htt.out]; exact Tm.ok1, by rw [htt.out]; exact Tm.sz1.symm⟩))).mono ?_
  rintro e w9 ⟨rfl, hb⟩
  clear hc00 hc01 hc02 hc03 hc04
  replace HX := HX.ext hb
  replace hE := hE.ext hb
  replace htm := htm.ext hb
  replace hnm := hnm.ext hb
  replace hum := hum.ext hb
  replace hzm := hzm.ext hb
  replace hmm := hmm.ext hb
  replace HIL := HIL.ext hb
  clear hb
  have hc10 := HX.cell 1 0 rfl rfl
  have hc11 := HX.cell 1 1 rfl rfl
  have hc12 := HX.cell 1 2 rfl rfl
  have hc13 := HX.cell 1 3 rfl rfl
  have hc14 := HX.cell 1 4 rfl rfl
  try simp only [List.getElem_toArray, List.getElem_cons_zero, List.getElem_cons_succ] at hc10 hc11 hc12 hc13 hc14
  go_wp2_with fail
  refine (qtext_any (T := Tm.x2) (TT.mk kn fn on vn An cn ns) w9 hnm hE.tab (Lib.hid (.inl ⟨by rw [hnt.out]; exact Tm.ok1.norm true, by rw [hnt.out]; exact Tm.tx2⟩))).mono ?_
  rintro e w10 ⟨rfl, hb⟩
  clear hc10 hc11 hc12 hc13 hc14
  replace HX := HX.ext hb
  replace hE := hE.ext hb
  replace htm := htm.ext hb
  replace hnm := hnm.ext hb
  replace hum := hum.ext hb
  replace hzm := hzm.ext hb
  replace hmm := hmm.ext hb
  replace HIL := HIL.ext hb
  clear hb
  have hc24 := HX.cell 2 4 rfl rfl
  try simp only [List.getElem_toArray, List.getElem_cons_zero, List.getElem_cons_succ] at hc24
  have hc40 := HX.cell 4 0 rfl rfl
  have hc41 := HX.cell 4 1 rfl rfl
  have hc42 := HX.cell 4 2 rfl rfl
  have hc43 := HX.cell 4 3 rfl rfl
  have hc44 := HX.cell 4 4 rfl rfl
  try simp only [List.getElem_toArray, List.getElem_cons_zero, List.getElem_cons_succ] at hc40 hc41 hc42 hc43 hc44
  go_wp2_with fail
  refine (qtext_any (T := Tm.x3) (TT.mk km fm om vm Am cm ms) w10 hmm hE.tab (Lib.hid (.inl ⟨by rw [hmt.out]; exact Tm.ok1.norm false, by rw [hmt.out]; exact Tm.tx3⟩))).mono ?_
  rintro e w11 ⟨rfl, hb⟩
  clear hc24
  clear hc40 hc41 hc42 hc43 hc44
  replace HX := HX.ext hb
  replace hE := hE.ext hb
  replace htm := htm.ext hb
  replace hnm := hnm.ext hb
  replace hum := hum.ext hb
  replace hzm := hzm.ext hb
  replace hmm := hmm.ext hb
  replace HIL := HIL.ext hb
  clear hb
  have HI17 := IEs.lit w11 3 [17] #[.int .i64 17] rfl
  have hb0 := below_alloc w11 (.cells #[.int .i64 17] 3)
  have HILS := HIL.ext hb0
  go_wp2_with fail
  refine (bints_any (b := true) AL (some ⟨w11.heap.size, 0, none⟩) cL 1 [17] [17] _ HILS HI17 (by decide) (by decide) (yes rfl)).mono ?_
  rintro e w12 ⟨rfl, hb⟩
  clear HI17 HILS
  replace hb := bel_trans hb0 hb
  clear hb0
  clear HIL
  replace HX := HX.ext hb
  replace hE := hE.ext hb
  replace htm := htm.ext hb
  replace hnm := hnm.ext hb
  replace hum := hum.ext hb
  replace hzm := hzm.ext hb
  replace hmm := hmm.ext hb
  clear hb
  have hc50 := HX.cell 5 0 rfl rfl
  have hc51 := HX.cell 5 1 rfl rfl
  have hc52 := HX.cell 5 2 rfl rfl
  have hc53 := HX.cell 5 3 rfl rfl
  have hc54 := HX.cell 5 4 rfl rfl
  have hc55 := HX.cell 5 5 rfl rfl
  have hc56 := HX.cell 5 6 rfl rfl
  try simp only [List.getElem_toArray, List.getElem_cons_zero, List.getElem_cons_succ] at hc50 hc51 hc52 hc53 hc54 hc55 hc56
  have hc00 := HX.cell 0 0 rfl rfl
  have hc01 := HX.cell 0 1 rfl rfl
  have hc02 := HX.cell 0 2 rfl rfl
  have hc03 := HX.cell 0 3 rfl rfl
  have hc04 := HX.cell 0 4 rfl rfl
  try simp only [List.getElem_toArray, List.getElem_cons_zero, List.getElem_cons_succ] at hc00 hc01 hc02 hc03 hc04
  go_wp2_with fail
  refine (qhas_any (b := true) sp1 (TT.mk kt ft ot vt At ct ts) w12 htm (yes ⟨sp1_v, by rw [htt.out]; exact Tm.ok1, by rw [htt.out]; exact hd1⟩)).mono ?_
  rintro e w13 ⟨rfl, hb⟩
  clear hc50 hc51 hc52 hc53 hc54 hc55 hc56
  clear hc00 hc01 hc02 hc03 hc04
  replace HX := HX.ext hb
  replace hE := hE.ext hb
  replace htm := htm.ext hb
  replace hnm := hnm.ext hb
  replace hum := hum.ext hb
  replace hzm := hzm.ext hb
  replace hmm := hmm.ext hb
  clear hb
  have hc50 := HX.cell 5 0 rfl rfl
  have hc51 := HX.cell 5 1 rfl rfl
  have hc52 := HX.cell 5 2 rfl rfl
  have hc53 := HX.cell 5 3 rfl rfl
  have hc54 := HX.cell 5 4 rfl rfl
  have hc55 := HX.cell 5 5 rfl rfl
  have hc56 := HX.cell 5 6 rfl rfl
  try simp only [List.getElem_toArray, List.getElem_cons_zero, List.getElem_cons_succ] at hc50 hc51 hc52 hc53 hc54 hc55 hc56
  have hc10 := HX.cell 1 0 rfl rfl
  have hc11 := HX.cell 1 1 rfl rfl
  have hc12 := HX.cell 1 2 rfl rfl
  have hc13 := HX.cell 1 3 rfl rfl
  have hc14 := HX.cell 1 4 rfl rfl
  try simp only [List.getElem_toArray, List.getElem_cons_zero, List.getElem_cons_succ] at hc10 hc11 hc12 hc13 hc14
  go_wp2_with fail
  refine (qhas_any (b := false) sp1 (TT.mk kn fn on vn An cn ns) w13 hnm (no fun h => by have h2 := h.2.2; rw [hnt.out, hd2] at h2; cases h2)).mono ?_
  rintro e w14 ⟨rfl, hb⟩
  clear hc50 hc51 hc52 hc53 hc54 hc55 hc56
  clear hc10 hc11 hc12 hc13 hc14
  replace HX := HX.ext hb
  replace hE := hE.ext hb
  replace htm := htm.ext hb
  replace hnm := hnm.ext hb
  replace hum := hum.ext hb
  replace hzm := hzm.ext hb
  replace hmm := hmm.ext hb
  clear hb
  have hc00 := HX.cell 0 0 rfl rfl
  have hc01 := HX.cell 0 1 rfl rfl
  have hc02 := HX.cell 0 2 rfl rfl
  have hc03 := HX.cell 0 3 rfl rfl
  have hc04 := HX.cell 0 4 rfl rfl
  try simp only [List.getElem_toArray, List.getElem_cons_zero, List.getElem_cons_succ] at hc00 hc01 hc02 hc03 hc04
  go_wp2_with fail
  refine (qvalid_any (b := true) (TT.mk kt ft ot vt At ct ts) w14 htm (yes (by rw [htt.out]; exact Tm.ok1))).mono ?_
  rintro e w15 ⟨rfl, hb⟩
  clear hc00 hc01 hc02 hc03 hc04
  replace HX := HX.ext hb
  replace hE := hE.ext hb
  replace htm := htm.ext hb
  replace hnm := hnm.ext hb
  replace hum := hum.ext hb
  replace hzm := hzm.ext hb
  replace hmm := hmm.ext hb
  clear hb
  go_wp2
  go_ret
  exact ⟨rfl, HX.below⟩
end Go.Proofs.YtolkijelldlmeaaGreatDoor
