/- The statement NaturalSubtracts: its walk. -/
import Derived.Test.YtjacffmoccpogaaDoorNCom
namespace Go.Proofs.YtjacffmoccpogaaDoor
open Go.RowKit Go.Proofs Go

/-- a cell of a block -/
structure C1 (W : World) (g : Nat) (v : Value) : Prop where
  c0 : W.cell? ⟨g, 0, none⟩ = some v
theorem C1.ext {W W' : World} {g : Nat} {v : Value} (h : C1 W g v) (hb : Below W.heap.size W W') : C1 W' g v := ⟨by rw [hb.cell (cell_lt h.c0)]; exact h.c0⟩
set_option maxHeartbeats 400000 in
set_option maxRecDepth 100000 in
theorem nsubl_few0 {A1 : Option Addr} {na ca : Nat} {B1 : Option Addr} {nb cb : Nat} (w : World) (hT : Tab w) (hna : na ≤ 9223372036854775807) (hnb : nb ≤ 9223372036854775807) (hf0 : Hid (fewN na nb = false)) :
    Calls Tryd.prog 8 #[.agg #[.slice A1 na ca], .agg #[.slice B1 nb cb]] w (RetB w true) := by
  go_enter Tryd.func8, Tryd.ntmps8
  go_wp2_with fail
  have HX := BL.two w #[.slice A1 na ca] #[.slice B1 nb cb] 24 24
  replace hT := hT.ext HX.below
  refine (awake_h hT).mono ?_
  rintro e w1 ⟨rfl, hb⟩
  replace HX := HX.ext hb
  replace hT := hT.ext hb
  clear hb
  have hc0 := HX.cell 0 0 rfl rfl
  have hc1 := HX.cell 1 0 rfl rfl
  try simp only [List.getElem_toArray, List.getElem_cons_zero, List.getElem_cons_succ] at hc0 hc1
  go_wp2_with fail
  refine (rfew_h hf0 (by omega) (by omega)).mono ?_
  rintro e w2 ⟨rfl, hb⟩
  clear hc0 hc1
  replace HX := HX.ext hb
  replace hT := hT.ext hb
  clear hb
  go_wp2_with fail
  refine (awake_h hT).mono ?_
  rintro e w98 ⟨rfl, hb⟩
  replace HX := HX.ext hb
  go_wp2
  go_ret
  exact ⟨rfl, HX.below⟩

set_option maxHeartbeats 4000000 in
set_option maxRecDepth 100000 in
theorem nsubl_yes {A1 : Option Addr} {na ca : Nat} {B1 : Option Addr} {nb cb : Nat} {a b : Nat} (w : World) (hT : Tab w) (Pa : Nr w A1 na ca a 12) (Pb : Nr w B1 nb cb b 12) (hf0 : Hid (fewN na nb = true)) :
    Calls Tryd.prog 8 #[.agg #[.slice A1 na ca], .agg #[.slice B1 nb cb]] w (RetB w true) := by
  have za := Pa.len
  have ya := Pa.le
  have zb := Pb.len
  have yb := Pb.le
  obtain ⟨d, hd⟩ : ∃ d, a - b = d := ⟨_, rfl⟩
  have zd : (dig d).length ≤ 60 := by rw [← hd]; exact Nat.le_trans (dig_mono (Nat.sub_le a b)) (by omega)
  have Hd := Lib.hid hd
  obtain ⟨r, hr⟩ : ∃ r : Int, (if a < b then 2 else 0) = r := ⟨_, rfl⟩
  have Hr := Lib.hid hr
  obtain ⟨s, hs⟩ : ∃ s, a + b = s := ⟨_, rfl⟩
  have zs : (dig s).length ≤ 60 := by rw [← hs]; exact Nat.le_trans (add_len za zb) (by omega)
  have Hs := Lib.hid hs
  obtain ⟨y, hy⟩ : ∃ y, a = y := ⟨_, rfl⟩
  have zy : (dig y).length ≤ 60 := by rw [← hy]; exact Nat.le_trans za (by omega)
  have Hy := Lib.hid hy
  have Hbk : Hid (s - b = y) := Lib.hid (by rw [← hs, ← hy]; omega)
  have Hr0 : Hid ((if s < b then 2 else 0) = (0 : Int)) := Lib.hid (by rw [if_neg (by omega)])
  clear hd hr hs hy
  have hT0 := hT
  have Pa0 := Pa
  have Pb0 := Pb
  go_enter Tryd.func8, Tryd.ntmps8
  go_wp2_with fail
  have HX := BL.two w #[.slice A1 na ca] #[.slice B1 nb cb] 24 24
  replace Pa := Pa.ext HX.below
  replace Pb := Pb.ext HX.below
  replace hT := hT.ext HX.below
  refine (awake_h hT).mono ?_
  rintro e w1 ⟨rfl, hb⟩
  replace HX := HX.ext hb
  replace hT := hT.ext hb
  replace Pa := Pa.ext hb
  replace Pb := Pb.ext hb
  clear hb
  have hc0 := HX.cell 0 0 rfl rfl
  have hc1 := HX.cell 1 0 rfl rfl
  try simp only [List.getElem_toArray, List.getElem_cons_zero, List.getElem_cons_succ] at hc0 hc1
  go_wp2_with fail
  refine (rfew_h hf0 (by omega) (by omega)).mono ?_
  rintro e w2 ⟨rfl, hb⟩
  clear hc0 hc1
  replace HX := HX.ext hb
  replace hT := hT.ext hb
  replace Pa := Pa.ext hb
  replace Pb := Pb.ext hb
  clear hb
  clear hf0
  have hc0 := HX.cell 0 0 rfl rfl
  have hc1 := HX.cell 1 0 rfl rfl
  try simp only [List.getElem_toArray, List.getElem_cons_zero, List.getElem_cons_succ] at hc0 hc1
  go_wp2_with fail
  refine (nsub_h Hd Hr zd Pa Pb (by omega) (by omega)).mono ?_
  rintro e w3 ⟨A3, c3, rfl, F3, hb⟩
  clear hc0 hc1
  replace HX := HX.ext hb
  replace hT := hT.ext hb
  replace Pa := Pa.ext hb
  replace Pb := Pb.ext hb
  clear hb
  go_upto_region 4 with fail
  have hb := below_alloc w3 (.cells #[.slice A3 (dig d).length c3] 24)
  replace HX := HX.new #[.slice A3 (dig d).length c3] 24
  simp only [List.cons_append, List.nil_append] at HX
  replace Pa := Pa.ext hb
  replace Pb := Pb.ext hb
  replace F3 := F3.ext hb
  replace hT := hT.ext hb
  clear hb
  generalize w3.alloc (.cells #[.slice A3 (dig d).length c3] 24) = W4 at *
  generalize w3.heap.size = g4 at *
  have hc0 := HX.cell 0 0 rfl rfl
  have hc1 := HX.cell 1 0 rfl rfl
  try simp only [List.getElem_toArray, List.getElem_cons_zero, List.getElem_cons_succ] at hc0 hc1
  go_wp2_with fail
  refine (rsub_h Hd Hr zd Pa Pb (by omega) (by omega)).mono ?_
  rintro e w4 ⟨A4, c4, rfl, F4, hb⟩
  clear hc0 hc1
  replace HX := HX.ext hb
  replace hT := hT.ext hb
  replace Pa := Pa.ext hb
  replace Pb := Pb.ext hb
  replace F3 := F3.ext hb
  clear hb
  go_upto_region 5 with fail
  have hb := below_alloc w4 (.cells #[.slice A4 (dig d).length c4] 24)
  replace HX := HX.new #[.slice A4 (dig d).length c4] 24
  simp only [List.cons_append, List.nil_append] at HX
  replace Pa := Pa.ext hb
  replace Pb := Pb.ext hb
  replace F3 := F3.ext hb
  replace F4 := F4.ext hb
  replace hT := hT.ext hb
  clear hb
  generalize w4.alloc (.cells #[.slice A4 (dig d).length c4] 24) = W5 at *
  generalize w4.heap.size = g5 at *
  have hwW := HX.below.size
  go_cut [9, 10] (fun x z wx => ∃ (g : Nat) (A : Option Addr) (c : Nat), x = .pointer (some ⟨g, 0, none⟩) ∧ z = .int .i64 0 ∧ Below W5.heap.size W5 wx ∧ wx.cell? ⟨g, 0, none⟩ = some (.slice A (dig y).length c) ∧ Lim wx A c (dig y))
  case first =>
    have HB0 : Below W5.heap.size W5 W5.drew := drew_ext W5
    have held : ∀ {W' : World}, Below W5.heap.size W5 W' → W'.cell? ⟨w.heap.size, 0, none⟩ = some (.slice A1 na ca) ∧ W'.cell? ⟨w.heap.size + 1, 0, none⟩ = some (.slice B1 nb cb) := fun hb => ⟨(HX.ext hb).cell 0 0 rfl rfl, (HX.ext hb).cell 1 0 rfl rfl⟩
    go_region_held3 (fun W' => W'.cell? ⟨w.heap.size, 0, none⟩ = some (.slice A1 na ca) ∧ W'.cell? ⟨w.heap.size + 1, 0, none⟩ = some (.slice B1 nb cb))
      ((refine held ?_; repeat' first | exact HB2 | exact HB1 | exact HB0 | exact Below.refl _ _ | refine bel_al ?_ _ | refine bel_dr ?_ | refine bel_set ?_ ?_ _ | omega | (simp <;> omega)))
      (first
            | (go_at_call 34; refine (nadd_h Hs zs (Pa.ext (by repeat' first | exact HB0 | exact Below.refl _ _ | refine bel_al ?_ _ | refine bel_dr ?_)) (Pb.ext (by repeat' first | exact HB0 | exact Below.refl _ _ | refine bel_al ?_ _ | refine bel_dr ?_)) (by omega) (by omega)).mono ?_; rintro e w1 ⟨A11, c11, rfl, F11, hb1⟩; have HB1 := bel_trans (a := W5) (by repeat' first | exact HB0 | exact Below.refl _ _ | refine bel_al ?_ _ | refine bel_dr ?_) hb1; have HC1 := bel_trans (a := W5) (by repeat' first | exact HB0 | exact Below.refl _ _ | refine bel_al ?_ _ | refine bel_dr ?_) hb1; have hs1 := HB1.size; have ht1 := HC1.size; (try have f100c : w1.cell? ⟨W5.heap.size, 0, none⟩ = some (.slice none 0 0) := by rw [hb1.cell (by first | omega | (simp <;> omega))]; simp [*]); (try have f100f : w1.frozen? ⟨W5.heap.size, 0, none⟩ = false := by rw [hb1.frozen (by first | omega | (simp <;> omega))]; simp [*]); (try have f100x : W5.heap.size < w1.heap.size := cell_lt f100c); (try have f1001 : W5.heap.size ≠ w1.heap.size := Nat.ne_of_lt (cell_lt f100c)); (try have f1002 : w1.heap.size ≠ W5.heap.size := Nat.ne_of_gt (cell_lt f100c)))
            | (go_at_call 32; refine (nsub_h Hbk Hr0 zy (F11.nr.ext (by repeat' first | exact Below.refl _ _ | refine bel_al ?_ _ | refine bel_dr ?_)) (Pb.ext (by repeat' first | exact HB1 | refine bel_al ?_ _ | refine bel_dr ?_)) (by omega) (by omega)).mono ?_; rintro e w2 ⟨A12, c12, rfl, F12, hb2⟩; have HB2 := bel_trans (a := W5) (by repeat' first | exact HB1 | refine bel_al ?_ _ | refine bel_dr ?_) hb2; have HC2 := bel_trans (a := w1) (by repeat' first | exact Below.refl _ _ | refine bel_al ?_ _ | refine bel_dr ?_) hb2; have hs2 := HB2.size; have ht2 := HC2.size; (try have f200c : w2.cell? ⟨W5.heap.size, 0, none⟩ = some (.slice none 0 0) := by rw [HC2.cell (cell_lt f100c)]; exact f100c); (try have f200f : w2.frozen? ⟨W5.heap.size, 0, none⟩ = false := by rw [HC2.frozen (cell_lt f100c)]; exact f100f); (try have f210c : w2.cell? ⟨w1.heap.size, 0, none⟩ = some (.slice none 0 0) := by rw [hb2.cell (by first | omega | (simp <;> omega))]; simp [*]); (try have f210f : w2.frozen? ⟨w1.heap.size, 0, none⟩ = false := by rw [hb2.frozen (by first | omega | (simp <;> omega))]; simp [*]); (try have f200d : ∀ o, (w2.alloc o).cell? ⟨W5.heap.size, 0, none⟩ = some (.slice none 0 0) := fun o => by rw [(below_alloc w2 o).cell (cell_lt f200c)]; exact f200c); (try have f200g : ∀ o, (w2.alloc o).frozen? ⟨W5.heap.size, 0, none⟩ = false := fun o => by rw [(below_alloc w2 o).frozen (cell_lt f200c)]; exact f200f); (try have f200x : W5.heap.size < w2.heap.size := cell_lt f200c); (try have f2001 : W5.heap.size ≠ w2.heap.size := Nat.ne_of_lt (cell_lt f200c)); (try have f2002 : w2.heap.size ≠ W5.heap.size := Nat.ne_of_gt (cell_lt f200c)); (try have f210d : ∀ o, (w2.alloc o).cell? ⟨w1.heap.size, 0, none⟩ = some (.slice none 0 0) := fun o => by rw [(below_alloc w2 o).cell (cell_lt f210c)]; exact f210c); (try have f210g : ∀ o, (w2.alloc o).frozen? ⟨w1.heap.size, 0, none⟩ = false := fun o => by rw [(below_alloc w2 o).frozen (cell_lt f210c)]; exact f210f); (try have f210x : w1.heap.size < w2.heap.size := cell_lt f210c); (try have f2101 : w1.heap.size ≠ w2.heap.size := Nat.ne_of_lt (cell_lt f210c)); (try have f2102 : w2.heap.size ≠ w1.heap.size := Nat.ne_of_gt (cell_lt f210c))))
    all_goals (
      go_wp2_with fail
      go_meet
      case rel =>
        clear held
        refine ⟨_, A12, c12, rfl, rfl, ?_, ?_, ?_⟩
        · repeat' first | with_reducible exact HB2 | with_reducible refine bel_al ?_ _ | with_reducible refine bel_set ?_ ?_ _ | omega | (simp <;> omega)
        · repeat' first | with_reducible assumption | with_reducible exact al_new (by simp) _ _ | with_reducible refine set_same (u := .slice none 0 0) ?_ | with_reducible refine set_ne ?_ ?_ | with_reducible refine al_old ?_ | omega | (simp <;> omega)
        · repeat' first | with_reducible exact F12.num | with_reducible refine lim_al ?_ _ | with_reducible refine lim_set ?_ ?_ _ | (repeat' first | with_reducible assumption | with_reducible exact al_new (by simp) _ _ | with_reducible refine set_same (u := .slice none 0 0) ?_ | with_reducible refine set_ne ?_ ?_ | with_reducible refine al_old ?_ | omega | (simp <;> omega); done))
  case rest =>
    obtain ⟨g7, A32, c32, rfl, rfl, hb, hcg, hlg⟩ := hcut
    have CG : C1 wc g7 (.slice A32 (dig y).length c32) := ⟨hcg⟩
    have F32 : Nc wc A32 c32 y 60 := ⟨hlg, zy⟩
    clear hcg hlg hwW
    replace HX := HX.ext hb
    replace hT := hT.ext hb
    replace Pa := Pa.ext hb
    replace Pb := Pb.ext hb
    replace F3 := F3.ext hb
    replace F4 := F4.ext hb
    clear hb
    go_wp2_with fail
    have held0 : ∀ {W' : World}, BL w W' [(w.heap.size, #[.slice A1 na ca], 24), (w.heap.size + 1, #[.slice B1 nb cb], 24), (g4, #[.slice A3 (dig d).length c3], 24), (g5, #[.slice A4 (dig d).length c4], 24)] → C1 W' g7 (.slice A32 (dig y).length c32) → W'.cell? ⟨w.heap.size, 0, none⟩ = some (.slice A1 na ca) ∧ W'.cell? ⟨w.heap.size + 1, 0, none⟩ = some (.slice B1 nb cb) ∧ W'.cell? ⟨g4, 0, none⟩ = some (.slice A3 (dig d).length c3) ∧ W'.cell? ⟨g5, 0, none⟩ = some (.slice A4 (dig d).length c4) ∧ W'.cell? ⟨g7, 0, none⟩ = some (.slice A32 (dig y).length c32) := fun h k => ⟨h.cell 0 0 rfl rfl, h.cell 1 0 rfl rfl, h.cell 2 0 rfl rfl, h.cell 3 0 rfl rfl, k.c0⟩
    replace HX := HX.ext (drew_ext _)
    replace hT := hT.ext (drew_ext _)
    replace Pa := Pa.ext (drew_ext _)
    replace Pb := Pb.ext (drew_ext _)
    replace F3 := F3.ext (drew_ext _)
    replace F4 := F4.ext (drew_ext _)
    replace CG := CG.ext (drew_ext _)
    replace F32 := F32.ext (drew_ext _)
    go_region_held3 (fun W' => W'.cell? ⟨w.heap.size, 0, none⟩ = some (.slice A1 na ca) ∧ W'.cell? ⟨w.heap.size + 1, 0, none⟩ = some (.slice B1 nb cb) ∧ W'.cell? ⟨g4, 0, none⟩ = some (.slice A3 (dig d).length c3) ∧ W'.cell? ⟨g5, 0, none⟩ = some (.slice A4 (dig d).length c4) ∧ W'.cell? ⟨g7, 0, none⟩ = some (.slice A32 (dig y).length c32))
      (exact held0 HX CG)
      (first
        | (go_at_call_of 18 (Value.agg #[.slice A3 (dig d).length c3]); go_at_call_of 18 (Value.agg #[.slice A4 (dig d).length c4]); refine (same_h (Lib.hid (decide_eq_true rfl)) F3 F4 (by omega) (by omega)).mono ?_; rintro e w5 ⟨rfl, hb⟩; replace HX := HX.ext hb; replace hT := hT.ext hb; replace Pa := Pa.ext hb; replace Pb := Pb.ext hb; replace F3 := F3.ext hb; replace F4 := F4.ext hb; replace CG := CG.ext hb; replace F32 := F32.ext hb; clear hb)
        | (go_at_call_of 35 (Value.agg #[.slice A1 na ca]); refine (nnorm_h Hy zy Pa (by omega)).mono ?_; rintro e w6 ⟨A6, c6, rfl, F6, hb⟩; replace HX := HX.ext hb; replace hT := hT.ext hb; replace Pa := Pa.ext hb; replace Pb := Pb.ext hb; replace F3 := F3.ext hb; replace F4 := F4.ext hb; replace CG := CG.ext hb; replace F32 := F32.ext hb; clear hb)
        | (go_at_call_of 18 (Value.agg #[.slice A32 (dig y).length c32]); go_at_call_of 18 (Value.agg #[.slice A6 (dig y).length c6]); refine (same_h (Lib.hid (decide_eq_true rfl)) F32 F6 (by omega) (by omega)).mono ?_; rintro e w7 ⟨rfl, hb⟩; replace HX := HX.ext hb; replace hT := hT.ext hb; replace Pa := Pa.ext hb; replace Pb := Pb.ext hb; replace F3 := F3.ext hb; replace F4 := F4.ext hb; replace CG := CG.ext hb; replace F32 := F32.ext hb; replace F6 := F6.ext hb; clear hb))
    go_wp2
    go_ret
    exact ⟨by first | rfl | simp, HX.below⟩

theorem nsubl_any {A1 : Option Addr} {na ca : Nat} {B1 : Option Addr} {nb cb : Nat} (w : World) (hT : Tab w) (Pa : NArg w A1 na ca) (Pb : NArg w B1 nb cb) :
    Calls Tryd.prog 8 #[.agg #[.slice A1 na ca], .agg #[.slice B1 nb cb]] w (RetB w true) := by
  cases hf0 : fewN na nb
  · exact nsubl_few0 w hT Pa.hn Pb.hn (Lib.hid hf0)
  · have b0 := fewN_true hf0
    obtain ⟨a, Qa⟩ := Pa.nr (k := 12) (by omega)
    obtain ⟨b, Qb⟩ := Pb.nr (k := 12) (by omega)
    exact nsubl_yes w hT Qa Qb (Lib.hid hf0)
end Go.Proofs.YtjacffmoccpogaaDoor
