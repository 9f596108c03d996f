/- Specimens: the program's Check of a list. -/
import Derived.Test.YtolkijelldlmeaaGreatDoorYFuM
import Derived.Maps.OwnSet
import Derived.Maps.OwnOps
namespace Go.Proofs.YtolkijelldlmeaaGreatDoor
open Go.RowKit Go.Proofs Go

/-- a specimen -/
structure Sp where
  id : Int
  ob : Int
  rv : Int
  os : Int
  rs : Int
  ax : Int
  wt : Int
namespace Sp
def val (s : Sp) : Value := .agg #[.int .i64 s.id, .int .i64 s.ob, .int .i64 s.rv, .int .i64 s.os, .int .i64 s.rs, .int .i64 s.ax, .int .i64 s.wt]
def cells (s : Sp) : List Value := [.int .i64 s.id, .int .i64 s.ob, .int .i64 s.rv, .int .i64 s.os, .int .i64 s.rs, .int .i64 s.ax, .int .i64 s.wt]
/-- a field -/
def fld (s : Sp) (f : Int) : Int := if f = 1 then s.id else if f = 2 then s.ob else if f = 3 then s.rv else if f = 4 then s.os else if f = 5 then s.rs else if f = 6 then s.ax else if f = 7 then s.wt else 0
/-- a valid one -/
def V (s : Sp) : Prop := ((1 ≤ s.ob ∧ s.ob ≤ 999) ∧ (1 ≤ s.rv ∧ s.rv ≤ 999) ∧ (1 ≤ s.os ∧ s.os ≤ 9) ∧ (1 ≤ s.rs ∧ s.rs ≤ 9)) ∧ (1 ≤ s.id ∧ s.id ≤ 9999) ∧ (0 ≤ s.ax ∧ s.ax ≤ 11) ∧ (1 ≤ s.wt ∧ s.wt ≤ 200000)
/-- all fields are numbers of a machine -/
def In (s : Sp) : Prop := ∀ f, -9223372036854775808 ≤ s.fld f ∧ s.fld f ≤ 9223372036854775807
theorem V.small {s : Sp} (h : s.V) (f : Int) : 0 ≤ s.fld f ∧ s.fld f ≤ 200000 := by
  obtain ⟨⟨h1, h2, h3, h4⟩, h5, h6, h7⟩ := h
  unfold fld
  repeat' split
  all_goals omega
end Sp
set_option maxHeartbeats 4000000 in
set_option maxRecDepth 100000 in
theorem qvalue_any {f u : Int} (s : Sp) (w : World) (hf1 : 1 ≤ f) (hf2 : f ≤ 7) (hu : Hid (s.fld f = u)) :
    Calls Tryz.prog 171 #[s.val, .int .i64 f] w (RetI w u) := by
  have HX := BL.one w #[.int .i64 s.id, .int .i64 s.ob, .int .i64 s.rv, .int .i64 s.os, .int .i64 s.rs, .int .i64 s.ax, .int .i64 s.wt] 40
  show Calls _ _ #[.agg #[.int .i64 s.id, .int .i64 s.ob, .int .i64 s.rv, .int .i64 s.os, .int .i64 s.rs, .int .i64 s.ax, .int .i64 s.wt], .int .i64 f] w _
  go_enter Tryz.func171, Tryz.ntmps171
  go_upto_region 1 with fail
  generalize w.alloc (.cells #[.int .i64 s.id, .int .i64 s.ob, .int .i64 s.rv, .int .i64 s.os, .int .i64 s.rs, .int .i64 s.ax, .int .i64 s.wt] 40) = V at *
  have hc00 := HX.cell 0 0 rfl rfl
  have hc01 := HX.cell 0 1 rfl rfl
  have hc02 := HX.cell 0 2 rfl rfl
  have hc03 := HX.cell 0 3 rfl rfl
  have hc04 := HX.cell 0 4 rfl rfl
  have hc05 := HX.cell 0 5 rfl rfl
  have hc06 := HX.cell 0 6 rfl rfl
  try simp only [List.getElem_toArray, List.getElem_cons_zero, List.getElem_cons_succ] at hc00 hc01 hc02 hc03 hc04 hc05 hc06
  obtain rfl | rfl | rfl | rfl | rfl | rfl | rfl : f = 1 ∨ f = 2 ∨ f = 3 ∨ f = 4 ∨ f = 5 ∨ f = 6 ∨ f = 7 := by omega
  · obtain rfl : u = s.id := hu.out.symm.trans (by rfl)
    have xI : ∀ w : World, (Instr.index 289 (.agg #[.int .i64 0, .int .i64 s.id, .int .i64 s.ob, .int .i64 s.rv, .int .i64 s.os, .int .i64 s.rs, .int .i64 s.ax, .int .i64 s.wt]) (.int .i64 1)).run Tryz.prog w = .ok (.int .i64 s.id) w := fun _ => by kernel_rfl
    go_wp2
    go_ret
    exact ⟨rfl, HX.below⟩
  · obtain rfl : u = s.ob := hu.out.symm.trans (by rfl)
    have xI : ∀ w : World, (Instr.index 289 (.agg #[.int .i64 0, .int .i64 s.id, .int .i64 s.ob, .int .i64 s.rv, .int .i64 s.os, .int .i64 s.rs, .int .i64 s.ax, .int .i64 s.wt]) (.int .i64 2)).run Tryz.prog w = .ok (.int .i64 s.ob) w := fun _ => by kernel_rfl
    go_wp2
    go_ret
    exact ⟨rfl, HX.below⟩
  · obtain rfl : u = s.rv := hu.out.symm.trans (by rfl)
    have xI : ∀ w : World, (Instr.index 289 (.agg #[.int .i64 0, .int .i64 s.id, .int .i64 s.ob, .int .i64 s.rv, .int .i64 s.os, .int .i64 s.rs, .int .i64 s.ax, .int .i64 s.wt]) (.int .i64 3)).run Tryz.prog w = .ok (.int .i64 s.rv) w := fun _ => by kernel_rfl
    go_wp2
    go_ret
    exact ⟨rfl, HX.below⟩
  · obtain rfl : u = s.os := hu.out.symm.trans (by rfl)
    have xI : ∀ w : World, (Instr.index 289 (.agg #[.int .i64 0, .int .i64 s.id, .int .i64 s.ob, .int .i64 s.rv, .int .i64 s.os, .int .i64 s.rs, .int .i64 s.ax, .int .i64 s.wt]) (.int .i64 4)).run Tryz.prog w = .ok (.int .i64 s.os) w := fun _ => by kernel_rfl
    go_wp2
    go_ret
    exact ⟨rfl, HX.below⟩
  · obtain rfl : u = s.rs := hu.out.symm.trans (by rfl)
    have xI : ∀ w : World, (Instr.index 289 (.agg #[.int .i64 0, .int .i64 s.id, .int .i64 s.ob, .int .i64 s.rv, .int .i64 s.os, .int .i64 s.rs, .int .i64 s.ax, .int .i64 s.wt]) (.int .i64 5)).run Tryz.prog w = .ok (.int .i64 s.rs) w := fun _ => by kernel_rfl
    go_wp2
    go_ret
    exact ⟨rfl, HX.below⟩
  · obtain rfl : u = s.ax := hu.out.symm.trans (by rfl)
    have xI : ∀ w : World, (Instr.index 289 (.agg #[.int .i64 0, .int .i64 s.id, .int .i64 s.ob, .int .i64 s.rv, .int .i64 s.os, .int .i64 s.rs, .int .i64 s.ax, .int .i64 s.wt]) (.int .i64 6)).run Tryz.prog w = .ok (.int .i64 s.ax) w := fun _ => by kernel_rfl
    go_wp2
    go_ret
    exact ⟨rfl, HX.below⟩
  · obtain rfl : u = s.wt := hu.out.symm.trans (by rfl)
    have xI : ∀ w : World, (Instr.index 289 (.agg #[.int .i64 0, .int .i64 s.id, .int .i64 s.ob, .int .i64 s.rv, .int .i64 s.os, .int .i64 s.rs, .int .i64 s.ax, .int .i64 s.wt]) (.int .i64 7)).run Tryz.prog w = .ok (.int .i64 s.wt) w := fun _ => by kernel_rfl
    go_wp2
    go_ret
    exact ⟨rfl, HX.below⟩
set_option maxHeartbeats 1000000 in
set_option maxRecDepth 100000 in
theorem holds1_any {g0 : Nat} {b : Bool} (s : Sp) (x : TT) (w : World) (hk0 : w.cell? ⟨g0, 0, none⟩ = some (.int .i64 s.id)) (hk1 : w.cell? ⟨g0, 1, none⟩ = some (.int .i64 s.ob)) (hk2 : w.cell? ⟨g0, 2, none⟩ = some (.int .i64 s.rv)) (hk3 : w.cell? ⟨g0, 3, none⟩ = some (.int .i64 s.os)) (hk4 : w.cell? ⟨g0, 4, none⟩ = some (.int .i64 s.rs)) (hk5 : w.cell? ⟨g0, 5, none⟩ = some (.int .i64 s.ax)) (hk6 : w.cell? ⟨g0, 6, none⟩ = some (.int .i64 s.wt)) (ih : ∀ W : World, Below w.heap.size w W → Calls Tryz.prog 88 #[s.val, x.val] W (RetB W b)) :
    Calls Tryz.prog 169 #[x.val, .pointer (some ⟨g0, 0, none⟩)] w (RetB w (!b)) := by
  have HX := BL.one w #[.int .i64 x.k, .int .i64 x.f, .int .i64 x.o, .int .i64 x.v, .slice x.A x.ks.length x.c] 55
  have hc00 := HX.cell 0 0 rfl rfl
  have hc01 := HX.cell 0 1 rfl rfl
  have hc02 := HX.cell 0 2 rfl rfl
  have hc03 := HX.cell 0 3 rfl rfl
  have hc04 := HX.cell 0 4 rfl rfl
  try simp only [List.getElem_toArray, List.getElem_cons_zero, List.getElem_cons_succ] at hc00 hc01 hc02 hc03 hc04
  replace hk0 : (w.alloc (.cells #[.int .i64 x.k, .int .i64 x.f, .int .i64 x.o, .int .i64 x.v, .slice x.A x.ks.length x.c] 55)).cell? ⟨g0, 0, none⟩ = some (.int .i64 s.id) := al_old hk0
  replace hk1 : (w.alloc (.cells #[.int .i64 x.k, .int .i64 x.f, .int .i64 x.o, .int .i64 x.v, .slice x.A x.ks.length x.c] 55)).cell? ⟨g0, 1, none⟩ = some (.int .i64 s.ob) := al_old hk1
  replace hk2 : (w.alloc (.cells #[.int .i64 x.k, .int .i64 x.f, .int .i64 x.o, .int .i64 x.v, .slice x.A x.ks.length x.c] 55)).cell? ⟨g0, 2, none⟩ = some (.int .i64 s.rv) := al_old hk2
  replace hk3 : (w.alloc (.cells #[.int .i64 x.k, .int .i64 x.f, .int .i64 x.o, .int .i64 x.v, .slice x.A x.ks.length x.c] 55)).cell? ⟨g0, 3, none⟩ = some (.int .i64 s.os) := al_old hk3
  replace hk4 : (w.alloc (.cells #[.int .i64 x.k, .int .i64 x.f, .int .i64 x.o, .int .i64 x.v, .slice x.A x.ks.length x.c] 55)).cell? ⟨g0, 4, none⟩ = some (.int .i64 s.rs) := al_old hk4
  replace hk5 : (w.alloc (.cells #[.int .i64 x.k, .int .i64 x.f, .int .i64 x.o, .int .i64 x.v, .slice x.A x.ks.length x.c] 55)).cell? ⟨g0, 5, none⟩ = some (.int .i64 s.ax) := al_old hk5
  replace hk6 : (w.alloc (.cells #[.int .i64 x.k, .int .i64 x.f, .int .i64 x.o, .int .i64 x.v, .slice x.A x.ks.length x.c] 55)).cell? ⟨g0, 6, none⟩ = some (.int .i64 s.wt) := al_old hk6
  have h1 := ih _ HX.below
  show Calls _ _ #[.agg #[.int .i64 x.k, .int .i64 x.f, .int .i64 x.o, .int .i64 x.v, .slice x.A x.ks.length x.c], _] w _
  go_enter Tryz.func169, Tryz.ntmps169
  go_wp2_with fail
  refine h1.mono ?_
  rintro e w5 ⟨rfl, hb⟩
  replace HX := HX.ext hb
  go_wp2
  go_ret
  exact ⟨rfl, HX.below⟩
set_option maxHeartbeats 1000000 in
set_option maxRecDepth 100000 in
theorem holds2_any {g0 : Nat} {b : Bool} (s : Sp) (x : TT) (w : World) (hk0 : w.cell? ⟨g0, 0, none⟩ = some (.int .i64 s.id)) (hk1 : w.cell? ⟨g0, 1, none⟩ = some (.int .i64 s.ob)) (hk2 : w.cell? ⟨g0, 2, none⟩ = some (.int .i64 s.rv)) (hk3 : w.cell? ⟨g0, 3, none⟩ = some (.int .i64 s.os)) (hk4 : w.cell? ⟨g0, 4, none⟩ = some (.int .i64 s.rs)) (hk5 : w.cell? ⟨g0, 5, none⟩ = some (.int .i64 s.ax)) (hk6 : w.cell? ⟨g0, 6, none⟩ = some (.int .i64 s.wt)) (ih : ∀ W : World, Below w.heap.size w W → Calls Tryz.prog 88 #[s.val, x.val] W (RetB W b)) :
    Calls Tryz.prog 170 #[x.val, .pointer (some ⟨g0, 0, none⟩)] w (RetB w (b)) := by
  have HX := BL.one w #[.int .i64 x.k, .int .i64 x.f, .int .i64 x.o, .int .i64 x.v, .slice x.A x.ks.length x.c] 55
  have hc00 := HX.cell 0 0 rfl rfl
  have hc01 := HX.cell 0 1 rfl rfl
  have hc02 := HX.cell 0 2 rfl rfl
  have hc03 := HX.cell 0 3 rfl rfl
  have hc04 := HX.cell 0 4 rfl rfl
  try simp only [List.getElem_toArray, List.getElem_cons_zero, List.getElem_cons_succ] at hc00 hc01 hc02 hc03 hc04
  replace hk0 : (w.alloc (.cells #[.int .i64 x.k, .int .i64 x.f, .int .i64 x.o, .int .i64 x.v, .slice x.A x.ks.length x.c] 55)).cell? ⟨g0, 0, none⟩ = some (.int .i64 s.id) := al_old hk0
  replace hk1 : (w.alloc (.cells #[.int .i64 x.k, .int .i64 x.f, .int .i64 x.o, .int .i64 x.v, .slice x.A x.ks.length x.c] 55)).cell? ⟨g0, 1, none⟩ = some (.int .i64 s.ob) := al_old hk1
  replace hk2 : (w.alloc (.cells #[.int .i64 x.k, .int .i64 x.f, .int .i64 x.o, .int .i64 x.v, .slice x.A x.ks.length x.c] 55)).cell? ⟨g0, 2, none⟩ = some (.int .i64 s.rv) := al_old hk2
  replace hk3 : (w.alloc (.cells #[.int .i64 x.k, .int .i64 x.f, .int .i64 x.o, .int .i64 x.v, .slice x.A x.ks.length x.c] 55)).cell? ⟨g0, 3, none⟩ = some (.int .i64 s.os) := al_old hk3
  replace hk4 : (w.alloc (.cells #[.int .i64 x.k, .int .i64 x.f, .int .i64 x.o, .int .i64 x.v, .slice x.A x.ks.length x.c] 55)).cell? ⟨g0, 4, none⟩ = some (.int .i64 s.rs) := al_old hk4
  replace hk5 : (w.alloc (.cells #[.int .i64 x.k, .int .i64 x.f, .int .i64 x.o, .int .i64 x.v, .slice x.A x.ks.length x.c] 55)).cell? ⟨g0, 5, none⟩ = some (.int .i64 s.ax) := al_old hk5
  replace hk6 : (w.alloc (.cells #[.int .i64 x.k, .int .i64 x.f, .int .i64 x.o, .int .i64 x.v, .slice x.A x.ks.length x.c] 55)).cell? ⟨g0, 6, none⟩ = some (.int .i64 s.wt) := al_old hk6
  have h1 := ih _ HX.below
  show Calls _ _ #[.agg #[.int .i64 x.k, .int .i64 x.f, .int .i64 x.o, .int .i64 x.v, .slice x.A x.ks.length x.c], _] w _
  go_enter Tryz.func170, Tryz.ntmps170
  go_wp2_with fail
  refine h1.mono ?_
  rintro e w5 ⟨rfl, hb⟩
  replace HX := HX.ext hb
  go_wp2
  go_ret
  exact ⟨rfl, HX.below⟩
theorem cellup {V W : World} {p : Addr} {v : Value} (hb : Below V.heap.size V W) (h : V.cell? p = some v) : W.cell? p = some v := by rw [hb.cell (cell_lt h)]; exact h
set_option maxHeartbeats 8000000 in
set_option maxRecDepth 100000 in
theorem qholds_any (s : Sp) (hsv : s.V) : ∀ (t : TT) (w : World), t.tm.wf → t.Mem w →
    Calls Tryz.prog 88 #[s.val, t.val] w (RetB w (Tm.holds s.fld t.tm)) := by
  have hsm := Lib.hid hsv.small
  refine fun t => TT.ind (P := fun t => ∀ (w : World), t.tm.wf → t.Mem w → Calls Tryz.prog 88 #[s.val, t.val] w (RetB w (Tm.holds s.fld t.tm))) (fun t ih0 w hw HM0 => ?_) t
  obtain ⟨k, f, o, v, A, c, ks⟩ := t
  obtain ⟨HK, hl, HM⟩ := HM0.kids
  clear HM0
  have ih : ∀ x ∈ ks, ∀ (w : World), x.tm.wf → x.Mem w → Calls Tryz.prog 88 #[s.val, x.val] w (RetB w (Tm.holds s.fld x.tm)) := ih0
  clear ih0
  show Calls _ _ #[.agg #[.int .i64 s.id, .int .i64 s.ob, .int .i64 s.rv, .int .i64 s.os, .int .i64 s.rs, .int .i64 s.ax, .int .i64 s.wt], .agg #[.int .i64 k, .int .i64 f, .int .i64 o, .int .i64 v, .slice A ks.length c]] w _
  have hw2 := hw
  rw [TT.tm_mk, Tm.wf, Tm.wfL_iff] at hw2
  have hwk := Lib.hid (show ∀ x ∈ ks, x.tm.wf from fun x hx => hw2.2 _ (List.mem_map_of_mem hx))
  have hsh := hw2.1
  clear hw2 hw
  obtain ⟨b, hb⟩ : ∃ b, Hid (Tm.holds s.fld (TT.mk k f o v A c ks).tm = b) := ⟨_, Lib.hid rfl⟩
  rw [hb.out]
  have HX := BL.two w #[.int .i64 s.id, .int .i64 s.ob, .int .i64 s.rv, .int .i64 s.os, .int .i64 s.rs, .int .i64 s.ax, .int .i64 s.wt] #[.int .i64 k, .int .i64 f, .int .i64 o, .int .i64 v, .slice A ks.length c] 40 55
  have HKV := HK.ext HX.below
  rcases hsh with ⟨rfl, hf1, hf2, ho1, ho2, hv1, hv2, hks⟩ | ⟨hk, rfl, rfl, rfl, h2, _⟩ | ⟨rfl, rfl, rfl, rfl, h1⟩
  · obtain ⟨u, hu⟩ : ∃ u, Hid (s.fld f = u) := ⟨_, Lib.hid rfl⟩
    have hub := hsm.out f
    rw [hu.out] at hub
    go_enter Tryz.func88, Tryz.ntmps88
    go_upto_region 1 with fail
    generalize (w.alloc (.cells #[.int .i64 s.id, .int .i64 s.ob, .int .i64 s.rv, .int .i64 s.os, .int .i64 s.rs, .int .i64 s.ax, .int .i64 s.wt] 40)).alloc (.cells #[.int .i64 1, .int .i64 f, .int .i64 o, .int .i64 v, .slice A ks.length c] 55) = V at *
    have hc10 := HX.cell 1 0 rfl rfl
    have hc11 := HX.cell 1 1 rfl rfl
    have hc12 := HX.cell 1 2 rfl rfl
    have hc13 := HX.cell 1 3 rfl rfl
    have hc14 := HX.cell 1 4 rfl rfl
    try simp only [List.getElem_toArray, List.getElem_cons_zero, List.getElem_cons_succ] at hc10 hc11 hc12 hc13 hc14
    go_upto_region 3 with fail
    clear hc10 hc11 hc12 hc13 hc14
    clear HKV
    have held : ∀ {W' : World}, BL w W' [(w.heap.size, #[.int .i64 s.id, .int .i64 s.ob, .int .i64 s.rv, .int .i64 s.os, .int .i64 s.rs, .int .i64 s.ax, .int .i64 s.wt], 40), (w.heap.size + 1, #[.int .i64 1, .int .i64 f, .int .i64 o, .int .i64 v, .slice A ks.length c], 55)] → W'.cell? ⟨w.heap.size, 0, none⟩ = some (.int .i64 s.id) ∧ W'.cell? ⟨w.heap.size, 1, none⟩ = some (.int .i64 s.ob) ∧ W'.cell? ⟨w.heap.size, 2, none⟩ = some (.int .i64 s.rv) ∧ W'.cell? ⟨w.heap.size, 3, none⟩ = some (.int .i64 s.os) ∧ W'.cell? ⟨w.heap.size, 4, none⟩ = some (.int .i64 s.rs) ∧ W'.cell? ⟨w.heap.size, 5, none⟩ = some (.int .i64 s.ax) ∧ W'.cell? ⟨w.heap.size, 6, none⟩ = some (.int .i64 s.wt) ∧ W'.cell? ⟨w.heap.size + 1, 1, none⟩ = some (.int .i64 f) ∧ W'.cell? ⟨w.heap.size + 1, 2, none⟩ = some (.int .i64 o) ∧ W'.cell? ⟨w.heap.size + 1, 3, none⟩ = some (.int .i64 v) := fun h => ⟨h.cell 0 0 rfl rfl, h.cell 0 1 rfl rfl, h.cell 0 2 rfl rfl, h.cell 0 3 rfl rfl, h.cell 0 4 rfl rfl, h.cell 0 5 rfl rfl, h.cell 0 6 rfl rfl, h.cell 1 1 rfl rfl, h.cell 1 2 rfl rfl, h.cell 1 3 rfl rfl⟩
    replace HX := HX.ext (drew_ext _)
    go_region_held3 (fun W' => W'.cell? ⟨w.heap.size, 0, none⟩ = some (.int .i64 s.id) ∧ W'.cell? ⟨w.heap.size, 1, none⟩ = some (.int .i64 s.ob) ∧ W'.cell? ⟨w.heap.size, 2, none⟩ = some (.int .i64 s.rv) ∧ W'.cell? ⟨w.heap.size, 3, none⟩ = some (.int .i64 s.os) ∧ W'.cell? ⟨w.heap.size, 4, none⟩ = some (.int .i64 s.rs) ∧ W'.cell? ⟨w.heap.size, 5, none⟩ = some (.int .i64 s.ax) ∧ W'.cell? ⟨w.heap.size, 6, none⟩ = some (.int .i64 s.wt) ∧ W'.cell? ⟨w.heap.size + 1, 1, none⟩ = some (.int .i64 f) ∧ W'.cell? ⟨w.heap.size + 1, 2, none⟩ = some (.int .i64 o) ∧ W'.cell? ⟨w.heap.size + 1, 3, none⟩ = some (.int .i64 v))
      (exact held HX)
      (first
        | (go_at_call 171; refine (qvalue_any s _ hf1 hf2 hu).mono ?_; rintro e wz ⟨rfl, hb⟩; replace HX := HX.ext hb; clear hb))
    all_goals (
      have hc12 := HX.cell 1 2 rfl rfl
      try simp only [List.getElem_toArray, List.getElem_cons_zero, List.getElem_cons_succ] at hc12
      obtain rfl | rfl | rfl | rfl | rfl | rfl : o = 1 ∨ o = 2 ∨ o = 3 ∨ o = 4 ∨ o = 5 ∨ o = 6 := by omega
      · have hb := Lib.hid (show b = (u - v == 0) by
          rw [← hb.out, TT.tm_mk, Tm.holds_cmp, hu.out]
          show Tm.cmpH u 1 v = _
          unfold Tm.cmpH
          rw [Bool.eq_iff_iff]; simp; omega)
        go_wp2
        go_ret
        exact ⟨by rw [hb.out]; rfl, HX.below⟩
      · have hb := Lib.hid (show b = (u - v != 0) by
          rw [← hb.out, TT.tm_mk, Tm.holds_cmp, hu.out]
          show Tm.cmpH u 2 v = _
          unfold Tm.cmpH
          rw [Bool.eq_iff_iff]; simp; omega)
        go_wp2
        go_ret
        exact ⟨by rw [hb.out]; rfl, HX.below⟩
      · have hb := Lib.hid (show b = decide (u - v < 0) by
          rw [← hb.out, TT.tm_mk, Tm.holds_cmp, hu.out]
          show Tm.cmpH u 3 v = _
          unfold Tm.cmpH
          simp; try omega)
        go_wp2
        go_ret
        exact ⟨by rw [hb.out]; rfl, HX.below⟩
      · have hb := Lib.hid (show b = decide (u - v ≤ 0) by
          rw [← hb.out, TT.tm_mk, Tm.holds_cmp, hu.out]
          show Tm.cmpH u 4 v = _
          unfold Tm.cmpH
          simp; try omega)
        go_wp2
        go_ret
        exact ⟨by rw [hb.out]; rfl, HX.below⟩
      · have hb := Lib.hid (show b = decide (0 < u - v) by
          rw [← hb.out, TT.tm_mk, Tm.holds_cmp, hu.out]
          show Tm.cmpH u 5 v = _
          unfold Tm.cmpH
          simp; try omega)
        go_wp2
        go_ret
        exact ⟨by rw [hb.out]; rfl, HX.below⟩
      · have hb := Lib.hid (show b = decide (0 ≤ u - v) by
          rw [← hb.out, TT.tm_mk, Tm.holds_cmp, hu.out]
          show Tm.cmpH u 6 v = _
          unfold Tm.cmpH
          simp; try omega)
        go_wp2
        go_ret
        exact ⟨by rw [hb.out]; rfl, HX.below⟩)
  · rcases hk with rfl | rfl
    · go_enter Tryz.func88, Tryz.ntmps88
      go_upto_region 1 with fail
      generalize (w.alloc (.cells #[.int .i64 s.id, .int .i64 s.ob, .int .i64 s.rv, .int .i64 s.os, .int .i64 s.rs, .int .i64 s.ax, .int .i64 s.wt] 40)).alloc (.cells #[.int .i64 2, .int .i64 0, .int .i64 0, .int .i64 0, .slice A ks.length c] 55) = V at *
      have hc00 := HX.cell 0 0 rfl rfl
      have hc01 := HX.cell 0 1 rfl rfl
      have hc02 := HX.cell 0 2 rfl rfl
      have hc03 := HX.cell 0 3 rfl rfl
      have hc04 := HX.cell 0 4 rfl rfl
      have hc05 := HX.cell 0 5 rfl rfl
      have hc06 := HX.cell 0 6 rfl rfl
      try simp only [List.getElem_toArray, List.getElem_cons_zero, List.getElem_cons_succ] at hc00 hc01 hc02 hc03 hc04 hc05 hc06
      have hc10 := HX.cell 1 0 rfl rfl
      have hc14 := HX.cell 1 4 rfl rfl
      try simp only [List.getElem_toArray, List.getElem_cons_zero, List.getElem_cons_succ] at hc10 hc14
      obtain ⟨q, hq⟩ : ∃ q : TT → Bool, ∀ x, q x = Tm.holds s.fld x.tm := ⟨fun x => Tm.holds s.fld x.tm, fun _ => rfl⟩
      have hC : ClosIs 169 #[.pointer (some ⟨w.heap.size, 0, none⟩)] ks (fun x => !q x) V := fun x hx W hW => holds1_any s x W (cellup hW hc00) (cellup hW hc01) (cellup hW hc02) (cellup hW hc03) (cellup hW hc04) (cellup hW hc05) (cellup hW hc06) fun W2 hW2 => by
        show Calls _ _ _ _ (RetB _ (q x))
        rw [hq]
        exact ih x hx W2 (hwk.out x hx) (((HM x hx).ext (HX.below.trans (hW.mono HX.below.size))).ext hW2)
      have hres := Lib.hid (show ks.any (fun x => !q x) = !b by
        rw [← hb.out, TT.tm_mk, Tm.holds_and, List.all_map]
        rw [List.not_all_eq_any_not]; congr 1; funext x; rw [hq]; rfl)
      clear hq
      go_wp2_with fail
      refine (contf_any 169 _ A c ks V HKV hl (fun _ _ => rfl) hC hres).mono ?_
      rintro e w6 ⟨rfl, hb6⟩
      replace HX := HX.ext hb6
      go_wp2
      go_ret
      exact ⟨by first | rfl | (cases b <;> rfl), HX.below⟩
    · go_enter Tryz.func88, Tryz.ntmps88
      go_upto_region 1 with fail
      generalize (w.alloc (.cells #[.int .i64 s.id, .int .i64 s.ob, .int .i64 s.rv, .int .i64 s.os, .int .i64 s.rs, .int .i64 s.ax, .int .i64 s.wt] 40)).alloc (.cells #[.int .i64 3, .int .i64 0, .int .i64 0, .int .i64 0, .slice A ks.length c] 55) = V at *
      have hc00 := HX.cell 0 0 rfl rfl
      have hc01 := HX.cell 0 1 rfl rfl
      have hc02 := HX.cell 0 2 rfl rfl
      have hc03 := HX.cell 0 3 rfl rfl
      have hc04 := HX.cell 0 4 rfl rfl
      have hc05 := HX.cell 0 5 rfl rfl
      have hc06 := HX.cell 0 6 rfl rfl
      try simp only [List.getElem_toArray, List.getElem_cons_zero, List.getElem_cons_succ] at hc00 hc01 hc02 hc03 hc04 hc05 hc06
      have hc10 := HX.cell 1 0 rfl rfl
      have hc14 := HX.cell 1 4 rfl rfl
      try simp only [List.getElem_toArray, List.getElem_cons_zero, List.getElem_cons_succ] at hc10 hc14
      obtain ⟨q, hq⟩ : ∃ q : TT → Bool, ∀ x, q x = Tm.holds s.fld x.tm := ⟨fun x => Tm.holds s.fld x.tm, fun _ => rfl⟩
      have hC : ClosIs 170 #[.pointer (some ⟨w.heap.size, 0, none⟩)] ks (fun x => q x) V := fun x hx W hW => holds2_any s x W (cellup hW hc00) (cellup hW hc01) (cellup hW hc02) (cellup hW hc03) (cellup hW hc04) (cellup hW hc05) (cellup hW hc06) fun W2 hW2 => by
        show Calls _ _ _ _ (RetB _ (q x))
        rw [hq]
        exact ih x hx W2 (hwk.out x hx) (((HM x hx).ext (HX.below.trans (hW.mono HX.below.size))).ext hW2)
      have hres := Lib.hid (show ks.any (fun x => q x) = b by
        rw [← hb.out, TT.tm_mk, Tm.holds_or, List.any_map]
        congr 1; funext x; rw [hq]; rfl)
      clear hq
      go_wp2_with fail
      refine (contf_any 170 _ A c ks V HKV hl (fun _ _ => rfl) hC hres).mono ?_
      rintro e w6 ⟨rfl, hb6⟩
      replace HX := HX.ext hb6
      go_wp2
      go_ret
      exact ⟨by first | rfl | (cases b <;> rfl), HX.below⟩
  · rw [List.length_map] at h1
    obtain ⟨x, rfl⟩ := List.length_eq_one_iff.1 h1
    have hxm : x ∈ [x] := List.mem_singleton_self x
    have hxM := (HM x hxm).ext HX.below
    obtain ⟨ad, rfl, hadb, e0, e1, e2, e3, e4⟩ := HKV.at_ (i := 0) rfl
    rw [Nat.zero_mul, show ad.add 0 = ad from rfl] at e0 e1 e2 e3 e4
    have hres := Lib.hid (show (!Tm.holds s.fld x.tm) = b by rw [← hb.out, TT.tm_mk, List.map_cons, List.map_nil, Tm.holds_not])
    have hcall := fun W => ih x hxm W (hwk.out x hxm)
    obtain ⟨z, hz⟩ : ∃ z, Hid (Tm.holds s.fld x.tm = z) := ⟨_, Lib.hid rfl⟩
    rw [hz.out] at hres hcall
    go_enter Tryz.func88, Tryz.ntmps88
    go_upto_region 1 with fail
    simp only [List.length_cons, List.length_nil, Nat.zero_add] at HX e0 e1 e2 e3 e4 hxM hadb HKV ⊢
    generalize (w.alloc (.cells #[.int .i64 s.id, .int .i64 s.ob, .int .i64 s.rv, .int .i64 s.os, .int .i64 s.rs, .int .i64 s.ax, .int .i64 s.wt] 40)).alloc (.cells #[.int .i64 4, .int .i64 0, .int .i64 0, .int .i64 0, .slice (some ad) 1 c] 55) = V at *
    have hc10 := HX.cell 1 0 rfl rfl
    try simp only [List.getElem_toArray, List.getElem_cons_zero] at hc10
    go_upto_region 9 with fail
    clear hc10
    have HE := And.intro e0 (And.intro e1 (And.intro e2 (And.intro e3 e4)))
    clear e0 e1 e2 e3 e4 hadb HKV
    have held : ∀ {W' : World}, BL w W' [(w.heap.size, #[.int .i64 s.id, .int .i64 s.ob, .int .i64 s.rv, .int .i64 s.os, .int .i64 s.rs, .int .i64 s.ax, .int .i64 s.wt], 40), (w.heap.size + 1, #[.int .i64 4, .int .i64 0, .int .i64 0, .int .i64 0, .slice (some ad) 1 c], 55)] → Below V.heap.size V W' → W'.cell? ⟨w.heap.size, 0, none⟩ = some (.int .i64 s.id) ∧ W'.cell? ⟨w.heap.size, 1, none⟩ = some (.int .i64 s.ob) ∧ W'.cell? ⟨w.heap.size, 2, none⟩ = some (.int .i64 s.rv) ∧ W'.cell? ⟨w.heap.size, 3, none⟩ = some (.int .i64 s.os) ∧ W'.cell? ⟨w.heap.size, 4, none⟩ = some (.int .i64 s.rs) ∧ W'.cell? ⟨w.heap.size, 5, none⟩ = some (.int .i64 s.ax) ∧ W'.cell? ⟨w.heap.size, 6, none⟩ = some (.int .i64 s.wt) ∧ W'.cell? ⟨w.heap.size + 1, 4, none⟩ = some (.slice (some ad) 1 c) ∧ W'.cell? ad = some (.int .i64 x.k) ∧ W'.cell? ⟨ad.block, ad.off + 1, none⟩ = some (.int .i64 x.f) ∧ W'.cell? ⟨ad.block, ad.off + 2, none⟩ = some (.int .i64 x.o) ∧ W'.cell? ⟨ad.block, ad.off + 3, none⟩ = some (.int .i64 x.v) ∧ W'.cell? ⟨ad.block, ad.off + 4, none⟩ = some (.slice x.A x.ks.length x.c) := fun h hb => ⟨h.cell 0 0 rfl rfl, h.cell 0 1 rfl rfl, h.cell 0 2 rfl rfl, h.cell 0 3 rfl rfl, h.cell 0 4 rfl rfl, h.cell 0 5 rfl rfl, h.cell 0 6 rfl rfl, h.cell 1 4 rfl rfl, cellup hb HE.1, cellup hb HE.2.1, cellup hb HE.2.2.1, cellup hb HE.2.2.2.1, cellup hb HE.2.2.2.2⟩
    have HD := Below.refl V.heap.size V
    replace HX := HX.ext (drew_ext _)
    replace HD := drew_below HD 1
    replace hxM := hxM.ext (drew_ext V)
    go_region_held3 (fun W' => W'.cell? ⟨w.heap.size, 0, none⟩ = some (.int .i64 s.id) ∧ W'.cell? ⟨w.heap.size, 1, none⟩ = some (.int .i64 s.ob) ∧ W'.cell? ⟨w.heap.size, 2, none⟩ = some (.int .i64 s.rv) ∧ W'.cell? ⟨w.heap.size, 3, none⟩ = some (.int .i64 s.os) ∧ W'.cell? ⟨w.heap.size, 4, none⟩ = some (.int .i64 s.rs) ∧ W'.cell? ⟨w.heap.size, 5, none⟩ = some (.int .i64 s.ax) ∧ W'.cell? ⟨w.heap.size, 6, none⟩ = some (.int .i64 s.wt) ∧ W'.cell? ⟨w.heap.size + 1, 4, none⟩ = some (.slice (some ad) 1 c) ∧ W'.cell? ad = some (.int .i64 x.k) ∧ W'.cell? ⟨ad.block, ad.off + 1, none⟩ = some (.int .i64 x.f) ∧ W'.cell? ⟨ad.block, ad.off + 2, none⟩ = some (.int .i64 x.o) ∧ W'.cell? ⟨ad.block, ad.off + 3, none⟩ = some (.int .i64 x.v) ∧ W'.cell? ⟨ad.block, ad.off + 4, none⟩ = some (.slice x.A x.ks.length x.c))
      (exact held HX HD)
      (first
        | (go_at_call 88; refine (hcall _ hxM).mono ?_; rintro e wz ⟨rfl, hb⟩; replace HX := HX.ext hb; replace HD := bel_trans HD hb; replace hxM := hxM.ext hb; clear hb))
    all_goals (
      go_wp2
      go_ret
      exact ⟨by rw [← hres.out]; rfl, HX.below⟩)
end Go.Proofs.YtolkijelldlmeaaGreatDoor

namespace Go.Proofs.YtolkijelldlmeaaGreatDoor
open Go.RowKit Go.Proofs Go

set_option maxHeartbeats 1000000 in
set_option maxRecDepth 100000 in
theorem spin_any {n lo hi : Int} {b : Bool} (w : World) (hb : Tells b (lo ≤ n ∧ n ≤ hi)) : Calls Tryz.prog 90 #[.int .i64 n, .int .i64 lo, .int .i64 hi] w fun e w' => e = .returned (.bool b) ∧ w' = w := by
  by_cases h1 : lo ≤ n
  · have d1 : decide (lo ≤ n) = true := decide_eq_true h1
    by_cases h2 : n ≤ hi
    · have d2 : decide (n ≤ hi) = true := decide_eq_true h2
      obtain rfl : b = true := hb.t ⟨h1, h2⟩
      go_enter Tryz.func90, Tryz.ntmps90
      go_wp2
      go_ret
      exact ⟨rfl, rfl⟩
    · have d2 : decide (n ≤ hi) = false := decide_eq_false h2
      obtain rfl : b = false := hb.f fun h => h2 h.2
      go_enter Tryz.func90, Tryz.ntmps90
      go_wp2
      go_ret
      exact ⟨rfl, rfl⟩
  · have d1 : decide (lo ≤ n) = false := decide_eq_false h1
    obtain rfl : b = false := hb.f fun h => h1 h.1
    go_enter Tryz.func90, Tryz.ntmps90
    go_wp2
    go_ret
    exact ⟨rfl, rfl⟩
set_option maxHeartbeats 4000000 in
set_option maxRecDepth 100000 in
theorem spvalid_any {b : Bool} (s : Sp) (w : World) (hb : Tells b s.V) : Calls Tryz.prog 105 #[s.val] w (RetB w b) := by
  have HX := BL.one w #[.int .i64 s.id, .int .i64 s.ob, .int .i64 s.rv, .int .i64 s.os, .int .i64 s.rs, .int .i64 s.ax, .int .i64 s.wt] 40
  show Calls _ _ #[.agg #[.int .i64 s.id, .int .i64 s.ob, .int .i64 s.rv, .int .i64 s.os, .int .i64 s.rs, .int .i64 s.ax, .int .i64 s.wt]] w _
  go_enter Tryz.func105, Tryz.ntmps105
  go_upto_region 1 with fail
  generalize w.alloc (.cells #[.int .i64 s.id, .int .i64 s.ob, .int .i64 s.rv, .int .i64 s.os, .int .i64 s.rs, .int .i64 s.ax, .int .i64 s.wt] 40) = V at *
  have hc00 := HX.cell 0 0 rfl rfl
  have hc01 := HX.cell 0 1 rfl rfl
  have hc02 := HX.cell 0 2 rfl rfl
  have hc03 := HX.cell 0 3 rfl rfl
  have hc04 := HX.cell 0 4 rfl rfl
  have hc05 := HX.cell 0 5 rfl rfl
  have hc06 := HX.cell 0 6 rfl rfl
  try simp only [List.getElem_toArray, List.getElem_cons_zero, List.getElem_cons_succ] at hc00 hc01 hc02 hc03 hc04 hc05 hc06
  by_cases g0 : 1 ≤ s.ob ∧ s.ob ≤ 999
  · by_cases g1 : 1 ≤ s.rv ∧ s.rv ≤ 999
    · by_cases g2 : 1 ≤ s.os ∧ s.os ≤ 9
      · by_cases g3 : 1 ≤ s.rs ∧ s.rs ≤ 9
        · by_cases g4 : 1 ≤ s.id ∧ s.id ≤ 9999
          · by_cases g5 : 0 ≤ s.ax ∧ s.ax ≤ 11
            · by_cases g6 : 1 ≤ s.wt ∧ s.wt ≤ 200000
              · obtain rfl : b = true := hb.t ⟨⟨g0, g1, g2, g3⟩, g4, g5, g6⟩
                have h0 := yes g0
                have h1 := yes g1
                have h2 := yes g2
                have h3 := yes g3
                have h4 := yes g4
                have h5 := yes g5
                have h6 := yes g6
                clear hb g0 g1 g2 g3 g4 g5 g6
                go_wp2_with fail
                refine (spin_any V h0).mono ?_
                rintro e w0 ⟨rfl, hw0⟩
                obtain rfl : V = w0 := hw0.symm
                go_wp2_with fail
                refine (spin_any V h1).mono ?_
                rintro e w1 ⟨rfl, hw1⟩
                obtain rfl : V = w1 := hw1.symm
                go_wp2_with fail
                refine (spin_any V h2).mono ?_
                rintro e w2 ⟨rfl, hw2⟩
                obtain rfl : V = w2 := hw2.symm
                go_wp2_with fail
                refine (spin_any V h3).mono ?_
                rintro e w3 ⟨rfl, hw3⟩
                obtain rfl : V = w3 := hw3.symm
                go_wp2_with fail
                refine (spin_any V h4).mono ?_
                rintro e w4 ⟨rfl, hw4⟩
                obtain rfl : V = w4 := hw4.symm
                go_wp2_with fail
                refine (spin_any V h5).mono ?_
                rintro e w5 ⟨rfl, hw5⟩
                obtain rfl : V = w5 := hw5.symm
                go_wp2_with fail
                refine (spin_any V h6).mono ?_
                rintro e w6 ⟨rfl, hw6⟩
                obtain rfl : V = w6 := hw6.symm
                go_wp2
                go_ret
                exact ⟨rfl, HX.below⟩
              · obtain rfl : b = false := hb.f fun h => g6 h.2.2.2
                have h0 := yes g0
                have h1 := yes g1
                have h2 := yes g2
                have h3 := yes g3
                have h4 := yes g4
                have h5 := yes g5
                have h6 := no g6
                clear hb g0 g1 g2 g3 g4 g5 g6
                go_wp2_with fail
                refine (spin_any V h0).mono ?_
                rintro e w0 ⟨rfl, hw0⟩
                obtain rfl : V = w0 := hw0.symm
                go_wp2_with fail
                refine (spin_any V h1).mono ?_
                rintro e w1 ⟨rfl, hw1⟩
                obtain rfl : V = w1 := hw1.symm
                go_wp2_with fail
                refine (spin_any V h2).mono ?_
                rintro e w2 ⟨rfl, hw2⟩
                obtain rfl : V = w2 := hw2.symm
                go_wp2_with fail
                refine (spin_any V h3).mono ?_
                rintro e w3 ⟨rfl, hw3⟩
                obtain rfl : V = w3 := hw3.symm
                go_wp2_with fail
                refine (spin_any V h4).mono ?_
                rintro e w4 ⟨rfl, hw4⟩
                obtain rfl : V = w4 := hw4.symm
                go_wp2_with fail
                refine (spin_any V h5).mono ?_
                rintro e w5 ⟨rfl, hw5⟩
                obtain rfl : V = w5 := hw5.symm
                go_wp2_with fail
                refine (spin_any V h6).mono ?_
                rintro e w6 ⟨rfl, hw6⟩
                obtain rfl : V = w6 := hw6.symm
                go_wp2
                go_ret
                exact ⟨rfl, HX.below⟩
            · obtain rfl : b = false := hb.f fun h => g5 h.2.2.1
              have h0 := yes g0
              have h1 := yes g1
              have h2 := yes g2
              have h3 := yes g3
              have h4 := yes g4
              have h5 := no g5
              clear hb g0 g1 g2 g3 g4 g5
              go_wp2_with fail
              refine (spin_any V h0).mono ?_
              rintro e w0 ⟨rfl, hw0⟩
              obtain rfl : V = w0 := hw0.symm
              go_wp2_with fail
              refine (spin_any V h1).mono ?_
              rintro e w1 ⟨rfl, hw1⟩
              obtain rfl : V = w1 := hw1.symm
              go_wp2_with fail
              refine (spin_any V h2).mono ?_
              rintro e w2 ⟨rfl, hw2⟩
              obtain rfl : V = w2 := hw2.symm
              go_wp2_with fail
              refine (spin_any V h3).mono ?_
              rintro e w3 ⟨rfl, hw3⟩
              obtain rfl : V = w3 := hw3.symm
              go_wp2_with fail
              refine (spin_any V h4).mono ?_
              rintro e w4 ⟨rfl, hw4⟩
              obtain rfl : V = w4 := hw4.symm
              go_wp2_with fail
              refine (spin_any V h5).mono ?_
              rintro e w5 ⟨rfl, hw5⟩
              obtain rfl : V = w5 := hw5.symm
              go_wp2
              go_ret
              exact ⟨rfl, HX.below⟩
          · obtain rfl : b = false := hb.f fun h => g4 h.2.1
            have h0 := yes g0
            have h1 := yes g1
            have h2 := yes g2
            have h3 := yes g3
            have h4 := no g4
            clear hb g0 g1 g2 g3 g4
            go_wp2_with fail
            refine (spin_any V h0).mono ?_
            rintro e w0 ⟨rfl, hw0⟩
            obtain rfl : V = w0 := hw0.symm
            go_wp2_with fail
            refine (spin_any V h1).mono ?_
            rintro e w1 ⟨rfl, hw1⟩
            obtain rfl : V = w1 := hw1.symm
            go_wp2_with fail
            refine (spin_any V h2).mono ?_
            rintro e w2 ⟨rfl, hw2⟩
            obtain rfl : V = w2 := hw2.symm
            go_wp2_with fail
            refine (spin_any V h3).mono ?_
            rintro e w3 ⟨rfl, hw3⟩
            obtain rfl : V = w3 := hw3.symm
            go_wp2_with fail
            refine (spin_any V h4).mono ?_
            rintro e w4 ⟨rfl, hw4⟩
            obtain rfl : V = w4 := hw4.symm
            go_wp2
            go_ret
            exact ⟨rfl, HX.below⟩
        · obtain rfl : b = false := hb.f fun h => g3 h.1.2.2.2
          have h0 := yes g0
          have h1 := yes g1
          have h2 := yes g2
          have h3 := no g3
          clear hb g0 g1 g2 g3
          go_wp2_with fail
          refine (spin_any V h0).mono ?_
          rintro e w0 ⟨rfl, hw0⟩
          obtain rfl : V = w0 := hw0.symm
          go_wp2_with fail
          refine (spin_any V h1).mono ?_
          rintro e w1 ⟨rfl, hw1⟩
          obtain rfl : V = w1 := hw1.symm
          go_wp2_with fail
          refine (spin_any V h2).mono ?_
          rintro e w2 ⟨rfl, hw2⟩
          obtain rfl : V = w2 := hw2.symm
          go_wp2_with fail
          refine (spin_any V h3).mono ?_
          rintro e w3 ⟨rfl, hw3⟩
          obtain rfl : V = w3 := hw3.symm
          go_wp2
          go_ret
          exact ⟨rfl, HX.below⟩
      · obtain rfl : b = false := hb.f fun h => g2 h.1.2.2.1
        have h0 := yes g0
        have h1 := yes g1
        have h2 := no g2
        clear hb g0 g1 g2
        go_wp2_with fail
        refine (spin_any V h0).mono ?_
        rintro e w0 ⟨rfl, hw0⟩
        obtain rfl : V = w0 := hw0.symm
        go_wp2_with fail
        refine (spin_any V h1).mono ?_
        rintro e w1 ⟨rfl, hw1⟩
        obtain rfl : V = w1 := hw1.symm
        go_wp2_with fail
        refine (spin_any V h2).mono ?_
        rintro e w2 ⟨rfl, hw2⟩
        obtain rfl : V = w2 := hw2.symm
        go_wp2
        go_ret
        exact ⟨rfl, HX.below⟩
    · obtain rfl : b = false := hb.f fun h => g1 h.1.2.1
      have h0 := yes g0
      have h1 := no g1
      clear hb g0 g1
      go_wp2_with fail
      refine (spin_any V h0).mono ?_
      rintro e w0 ⟨rfl, hw0⟩
      obtain rfl : V = w0 := hw0.symm
      go_wp2_with fail
      refine (spin_any V h1).mono ?_
      rintro e w1 ⟨rfl, hw1⟩
      obtain rfl : V = w1 := hw1.symm
      go_wp2
      go_ret
      exact ⟨rfl, HX.below⟩
  · obtain rfl : b = false := hb.f fun h => g0 h.1.1
    have h0 := no g0
    clear hb g0
    go_wp2_with fail
    refine (spin_any V h0).mono ?_
    rintro e w0 ⟨rfl, hw0⟩
    obtain rfl : V = w0 := hw0.symm
    go_wp2
    go_ret
    exact ⟨rfl, HX.below⟩
set_option maxHeartbeats 4000000 in
set_option maxRecDepth 100000 in
theorem qhas_any {b : Bool} (s : Sp) (t : TT) (w : World) (HM : t.Mem w) (hb : Tells b (s.V ∧ t.tm.Ok ∧ Tm.holds s.fld t.tm = true)) : Calls Tryz.prog 41 #[s.val, t.val] w (RetB w b) := by
  have HX := BL.two w #[.int .i64 s.id, .int .i64 s.ob, .int .i64 s.rv, .int .i64 s.os, .int .i64 s.rs, .int .i64 s.ax, .int .i64 s.wt] #[.int .i64 t.k, .int .i64 t.f, .int .i64 t.o, .int .i64 t.v, .slice t.A t.ks.length t.c] 40 55
  replace HM := TT.Mem.ext HX.below HM
  show Calls _ _ #[.agg #[.int .i64 s.id, .int .i64 s.ob, .int .i64 s.rv, .int .i64 s.os, .int .i64 s.rs, .int .i64 s.ax, .int .i64 s.wt], .agg #[.int .i64 t.k, .int .i64 t.f, .int .i64 t.o, .int .i64 t.v, .slice t.A t.ks.length t.c]] w _
  go_enter Tryz.func41, Tryz.ntmps41
  go_upto_region 1 with fail
  generalize (w.alloc (.cells #[.int .i64 s.id, .int .i64 s.ob, .int .i64 s.rv, .int .i64 s.os, .int .i64 s.rs, .int .i64 s.ax, .int .i64 s.wt] 40)).alloc (.cells #[.int .i64 t.k, .int .i64 t.f, .int .i64 t.o, .int .i64 t.v, .slice t.A t.ks.length t.c] 55) = V at *
  have hc00 := HX.cell 0 0 rfl rfl
  have hc01 := HX.cell 0 1 rfl rfl
  have hc02 := HX.cell 0 2 rfl rfl
  have hc03 := HX.cell 0 3 rfl rfl
  have hc04 := HX.cell 0 4 rfl rfl
  have hc05 := HX.cell 0 5 rfl rfl
  have hc06 := HX.cell 0 6 rfl rfl
  try simp only [List.getElem_toArray, List.getElem_cons_zero, List.getElem_cons_succ] at hc00 hc01 hc02 hc03 hc04 hc05 hc06
  have hc10 := HX.cell 1 0 rfl rfl
  have hc11 := HX.cell 1 1 rfl rfl
  have hc12 := HX.cell 1 2 rfl rfl
  have hc13 := HX.cell 1 3 rfl rfl
  have hc14 := HX.cell 1 4 rfl rfl
  try simp only [List.getElem_toArray, List.getElem_cons_zero, List.getElem_cons_succ] at hc10 hc11 hc12 hc13 hc14
  by_cases hv : s.V
  · have yv := yes hv
    have hsv := Lib.hid hv
    by_cases ho : t.tm.Ok
    · have yo := yes ho
      have hwf := Lib.hid ho.1
      have hbb := Lib.hid (show Tm.holds s.fld t.tm = b by
        cases h : Tm.holds s.fld t.tm with
        | true => exact (hb.t ⟨hv, ho, h⟩).symm
        | false => exact (hb.f fun k => by rw [h] at k; cases k.2.2).symm)
      clear hv ho hb
      go_wp2_with fail
      refine (spvalid_any s V yv).mono ?_
      rintro e w4 ⟨rfl, hb4⟩
      replace HX := HX.ext hb4
      replace HM := TT.Mem.ext hb4 HM
      clear hb4 hc00 hc01 hc02 hc03 hc04 hc05 hc06 hc10 hc11 hc12 hc13 hc14
      have hc00 := HX.cell 0 0 rfl rfl
      have hc01 := HX.cell 0 1 rfl rfl
      have hc02 := HX.cell 0 2 rfl rfl
      have hc03 := HX.cell 0 3 rfl rfl
      have hc04 := HX.cell 0 4 rfl rfl
      have hc05 := HX.cell 0 5 rfl rfl
      have hc06 := HX.cell 0 6 rfl rfl
      try simp only [List.getElem_toArray, List.getElem_cons_zero, List.getElem_cons_succ] at hc00 hc01 hc02 hc03 hc04 hc05 hc06
      have hc10 := HX.cell 1 0 rfl rfl
      have hc11 := HX.cell 1 1 rfl rfl
      have hc12 := HX.cell 1 2 rfl rfl
      have hc13 := HX.cell 1 3 rfl rfl
      have hc14 := HX.cell 1 4 rfl rfl
      try simp only [List.getElem_toArray, List.getElem_cons_zero, List.getElem_cons_succ] at hc10 hc11 hc12 hc13 hc14
      go_wp2_with fail
      refine (qvalid_any t w4 HM yo).mono ?_
      rintro e w5 ⟨rfl, hb5⟩
      replace HX := HX.ext hb5
      replace HM := TT.Mem.ext hb5 HM
      clear hb5 hc00 hc01 hc02 hc03 hc04 hc05 hc06 hc10 hc11 hc12 hc13 hc14
      have hc00 := HX.cell 0 0 rfl rfl
      have hc01 := HX.cell 0 1 rfl rfl
      have hc02 := HX.cell 0 2 rfl rfl
      have hc03 := HX.cell 0 3 rfl rfl
      have hc04 := HX.cell 0 4 rfl rfl
      have hc05 := HX.cell 0 5 rfl rfl
      have hc06 := HX.cell 0 6 rfl rfl
      try simp only [List.getElem_toArray, List.getElem_cons_zero, List.getElem_cons_succ] at hc00 hc01 hc02 hc03 hc04 hc05 hc06
      have hc10 := HX.cell 1 0 rfl rfl
      have hc11 := HX.cell 1 1 rfl rfl
      have hc12 := HX.cell 1 2 rfl rfl
      have hc13 := HX.cell 1 3 rfl rfl
      have hc14 := HX.cell 1 4 rfl rfl
      try simp only [List.getElem_toArray, List.getElem_cons_zero, List.getElem_cons_succ] at hc10 hc11 hc12 hc13 hc14
      go_wp2_with fail
      refine (qholds_any s hsv.out t w5 hwf.out HM).mono ?_
      rw [hbb.out]
      rintro e w6 ⟨rfl, hb6⟩
      replace HX := HX.ext hb6
      go_wp2
      go_ret
      exact ⟨rfl, HX.below⟩
    · have yo := no ho
      obtain rfl : b = false := hb.f fun h => ho h.2.1
      clear hv ho hb
      go_wp2_with fail
      refine (spvalid_any s V yv).mono ?_
      rintro e w4 ⟨rfl, hb4⟩
      replace HX := HX.ext hb4
      replace HM := TT.Mem.ext hb4 HM
      clear hb4 hc00 hc01 hc02 hc03 hc04 hc05 hc06 hc10 hc11 hc12 hc13 hc14
      have hc10 := HX.cell 1 0 rfl rfl
      have hc11 := HX.cell 1 1 rfl rfl
      have hc12 := HX.cell 1 2 rfl rfl
      have hc13 := HX.cell 1 3 rfl rfl
      have hc14 := HX.cell 1 4 rfl rfl
      try simp only [List.getElem_toArray, List.getElem_cons_zero, List.getElem_cons_succ] at hc10 hc11 hc12 hc13 hc14
      go_wp2_with fail
      refine (qvalid_any t w4 HM yo).mono ?_
      rintro e w5 ⟨rfl, hb5⟩
      replace HX := HX.ext hb5
      go_wp2
      go_ret
      exact ⟨rfl, HX.below⟩
  · have yv := no hv
    obtain rfl : b = false := hb.f fun h => hv h.1
    clear hv hb
    go_wp2_with fail
    refine (spvalid_any s V yv).mono ?_
    rintro e w4 ⟨rfl, hb4⟩
    replace HX := HX.ext hb4
    go_wp2
    go_ret
    exact ⟨rfl, HX.below⟩
end Go.Proofs.YtolkijelldlmeaaGreatDoor

namespace Go.Proofs.YtolkijelldlmeaaGreatDoor
open Go.RowKit Go.Proofs Go Go.Maps

theorem ownsMap_ext {P : Program} {w w' : World} {k : TypeId} {R : Value → Option (DataW Unit × List MemPlace)} {b n : Nat} {D : DataW Unit} (h : w.ownsMap P k R b n D) (hb : Below w.heap.size w w') : w'.ownsMap P k R b n D :=
  h.kept (grown_of_below hb none) (by simp)
theorem plainElem_bool_inv {P : Program} {e : TypeId} (he : P.underlying e = some .bool) {v : Value} {z : DataW Unit × List MemPlace} (h : plainElem P e v = some z) : ∃ a, v = .bool a ∧ z = (.lit (.bool a), []) := by
  unfold plainElem at h
  rw [he] at h
  cases v <;> simp at h
  exact ⟨_, rfl, h.symm⟩
/-- a look-up in a map of truth values that the call made -/
theorem wp_lookup_bool {P : Program} (w : World) {ops : Array Oper} {rest : List Oper} {o : Oper} {a : Act} {Q : Exit → Act → World → Prop}
    (hw : Region.wanted o (yielded ops a.tmps) = true) (m x : Operand) (t : TypeId) (hop : o.op = Op.lookup t m x false)
    (k e : TypeId) (K : Keyed P k) (ht : P.underlying t = some (.map k e)) (he : P.underlying e = some .bool) (hz : (zeroValue e).run P w = .ok (.bool false) w) (b n : Nat) (D : DataW Unit)
    (hm : a.eval m = .map (some b)) (hown : w.ownsMap P k (plainElem P e) b n D) (key : Value) (kl : Lit) (hx : a.eval x = key) (hkey : keyOf P k key = some kl)
    (hK : ∀ c : Bool, D.atKey kl (.lit (.bool false)) = .lit (.bool c) → wpList P ops Q rest (a.put o.dst (.bool c)) w) :
    wpList P ops Q (o :: rest) a w := by
  rw [wpList, if_pos hw]
  refine .inl ?_
  obtain ⟨v, ps, hrun, hv⟩ := hown.lookup K ht hz (plainElem_bool he false) hkey
  obtain ⟨c, rfl, hc⟩ := plainElem_bool_inv he hv
  simp only [Prod.mk.injEq] at hc
  unfold Oper.wp
  simp [execOp, hop, hm, hx, hrun, Result.andThen]
  exact hK c hc.1
theorem at_set (u z : DataW Unit) (k : Lit) : ∀ (acc : List Lit) (m : DataW Unit), IsMap m → (∀ x ∈ acc, WideAt.IsKeyLit x) → (k ∈ acc ∧ (acc.foldl (fun m x => m.put x u) m).atKey k z = u) ∨ (k ∉ acc ∧ (acc.foldl (fun m x => m.put x u) m).atKey k z = m.atKey k z)
  | [], m, _, _ => .inr ⟨by simp, rfl⟩
  | x :: acc, m, hm, ha => by
    have ih := at_set u z k acc (m.put x u) (hm.put x u) fun y hy => ha y (List.mem_cons_of_mem _ hy)
    rw [List.foldl_cons]
    rcases ih with ⟨h1, h2⟩ | ⟨h1, h2⟩
    · exact .inl ⟨List.mem_cons_of_mem _ h1, h2⟩
    · by_cases h3 : k = x
      · subst h3
        rw [atKey_put_same hm (ha _ List.mem_cons_self)] at h2
        exact .inl ⟨List.mem_cons_self, h2⟩
      · rw [atKey_put_other h3] at h2
        exact .inr ⟨fun h => by
          rcases List.mem_cons.1 h with h | h
          · exact h3 h
          · exact h1 h, h2⟩
def seenI (l : List Int) : DataW Unit := setOf (.lit (.bool true)) (l.map fun x => Lit.int .i64 x)
theorem seenI_at {l : List Int} {n : Int} {c : Bool} (h : (seenI l).atKey (.int .i64 n) (.lit (.bool false)) = .lit (.bool c)) : c = true ↔ n ∈ l := by
  have hk : ∀ x ∈ l.map fun x => Lit.int .i64 x, WideAt.IsKeyLit x := fun x hx => by
    obtain ⟨y, _, rfl⟩ := List.mem_map.1 hx
    exact True.intro
  have e : Lit.int .i64 n ∈ l.map (fun x => Lit.int .i64 x) ↔ n ∈ l := by
    rw [List.mem_map]
    constructor
    · rintro ⟨x, hx, h⟩
      injection h with _ h
      rw [← h]; exact hx
    · intro hx
      exact ⟨n, hx, rfl⟩
  rcases at_set (.lit (.bool true)) (.lit (.bool false)) (.int .i64 n) (l.map fun x => Lit.int .i64 x) (.map []) isMap_empty hk with ⟨h1, h2⟩ | ⟨h1, h2⟩
  · rw [seenI, setOf, h2] at h
    injection h with h; injection h with h
    exact ⟨fun _ => e.1 h1, fun _ => h.symm⟩
  · rw [seenI, setOf, h2] at h
    have h : DataW.lit (H := Unit) (.bool false) = .lit (.bool c) := h
    injection h with h; injection h with h
    subst h
    exact ⟨fun x => (by cases x), fun x => absurd (e.2 x) h1⟩
theorem seenI_snoc (l : List Int) (x : Int) : seenI (l ++ [x]) = (seenI l).put (.int .i64 x) (.lit (.bool true)) := by
  rw [seenI, seenI, List.map_append]
  exact setOf_snoc _ _ _
theorem zeroB (w : World) : (zeroValue 4).run Tryz.prog w = .ok (.bool false) w := by kernel_rfl
theorem lawI : Keyed Tryz.prog 3 := int_keyed Tryz.underlying3
/-- a slice reads as these specimens -/
def SpS (w : World) (A : Option Addr) (l : List Sp) : Prop := 0 < l.length → ∃ ad, A = some ad ∧ ad.block < w.heap.size ∧ ∀ (i : Nat) (x : Sp), l[i]? = some x →
  w.cell? (ad.add (i * 7)) = some (.int .i64 x.id) ∧ w.cell? ⟨(ad.add (i * 7)).block, (ad.add (i * 7)).off + 1, none⟩ = some (.int .i64 x.ob) ∧ w.cell? ⟨(ad.add (i * 7)).block, (ad.add (i * 7)).off + 2, none⟩ = some (.int .i64 x.rv) ∧ w.cell? ⟨(ad.add (i * 7)).block, (ad.add (i * 7)).off + 3, none⟩ = some (.int .i64 x.os) ∧ w.cell? ⟨(ad.add (i * 7)).block, (ad.add (i * 7)).off + 4, none⟩ = some (.int .i64 x.rs) ∧ w.cell? ⟨(ad.add (i * 7)).block, (ad.add (i * 7)).off + 5, none⟩ = some (.int .i64 x.ax) ∧ w.cell? ⟨(ad.add (i * 7)).block, (ad.add (i * 7)).off + 6, none⟩ = some (.int .i64 x.wt)
theorem SpS.ext {w w' : World} {A : Option Addr} {l : List Sp} (h : SpS w A l) (hb : Below w.heap.size w w') : SpS w' A l := fun h0 => by
  obtain ⟨ad, h1, h2, h3⟩ := h h0
  refine ⟨ad, h1, Nat.lt_of_lt_of_le h2 hb.size, fun i x hx => ?_⟩
  obtain ⟨a, b, c, d, e, f, g⟩ := h3 i x hx
  exact ⟨cellup hb a, cellup hb b, cellup hb c, cellup hb d, cellup hb e, cellup hb f, cellup hb g⟩
theorem SpS.at_ {w : World} {A : Option Addr} {l : List Sp} (h : SpS w A l) {i : Nat} {x : Sp} (hx : l[i]? = some x) : ∃ ad, A = some ad ∧ ad.block < w.heap.size ∧ w.cell? (ad.add (i * 7)) = some (.int .i64 x.id) ∧ w.cell? ⟨(ad.add (i * 7)).block, (ad.add (i * 7)).off + 1, none⟩ = some (.int .i64 x.ob) ∧ w.cell? ⟨(ad.add (i * 7)).block, (ad.add (i * 7)).off + 2, none⟩ = some (.int .i64 x.rv) ∧ w.cell? ⟨(ad.add (i * 7)).block, (ad.add (i * 7)).off + 3, none⟩ = some (.int .i64 x.os) ∧ w.cell? ⟨(ad.add (i * 7)).block, (ad.add (i * 7)).off + 4, none⟩ = some (.int .i64 x.rs) ∧ w.cell? ⟨(ad.add (i * 7)).block, (ad.add (i * 7)).off + 5, none⟩ = some (.int .i64 x.ax) ∧ w.cell? ⟨(ad.add (i * 7)).block, (ad.add (i * 7)).off + 6, none⟩ = some (.int .i64 x.wt) := by
  have hi := (List.getElem?_eq_some_iff.1 hx).1
  obtain ⟨ad, h1, h2, h3⟩ := h (by omega)
  exact ⟨ad, h1, h2, h3 i x hx⟩
/-- the error of a list -/
def ChkS (l : List Sp) (E : Int) : Prop := (64 < l.length ∧ E = 6) ∨ (l.length ≤ 64 ∧ (∃ x ∈ l, ¬ x.V) ∧ E = 1) ∨ (l.length ≤ 64 ∧ (∀ x ∈ l, x.V) ∧ ¬ (l.map Sp.id).Nodup ∧ E = 8) ∨ (l.length ≤ 64 ∧ (∀ x ∈ l, x.V) ∧ (l.map Sp.id).Nodup ∧ E = 0)
theorem ChkS.ex (l : List Sp) : ∃ E, ChkS l E := by
  by_cases h : l.length ≤ 64
  · by_cases hv : ∀ x ∈ l, x.V
    · by_cases hn : (l.map Sp.id).Nodup
      · exact ⟨_, .inr (.inr (.inr ⟨h, hv, hn, rfl⟩))⟩
      · exact ⟨_, .inr (.inr (.inl ⟨h, hv, hn, rfl⟩))⟩
    · refine ⟨_, .inr (.inl ⟨h, ?_, rfl⟩)⟩
      rw [Classical.not_forall] at hv
      obtain ⟨x, hx⟩ := hv
      rw [Classical.not_imp] at hx
      exact ⟨x, hx⟩
  · exact ⟨_, .inl ⟨by omega, rfl⟩⟩
theorem ChkS.uniq {l : List Sp} {E F : Int} (h : ChkS l E) (k : ChkS l F) : E = F := by
  rcases h with ⟨a, rfl⟩ | ⟨a, ⟨x, hx, hv⟩, rfl⟩ | ⟨a, b, c, rfl⟩ | ⟨a, b, c, rfl⟩ <;> rcases k with ⟨a2, rfl⟩ | ⟨a2, ⟨x2, hx2, hv2⟩, rfl⟩ | ⟨a2, b2, c2, rfl⟩ | ⟨a2, b2, c2, rfl⟩ <;> first | rfl | omega | exact absurd (b2 x hx) hv | exact absurd (b x2 hx2) hv2 | exact absurd c2 c | exact absurd c c2
theorem nodup_snoc {l : List Int} {x : Int} : (l ++ [x]).Nodup ↔ l.Nodup ∧ x ∉ l := by
  rw [List.nodup_append]
  constructor
  · rintro ⟨h1, _, h3⟩
    exact ⟨h1, fun hx => h3 x hx x (by simp) rfl⟩
  · rintro ⟨h1, h2⟩
    refine ⟨h1, by simp, fun a ha b hb => ?_⟩
    rw [List.mem_singleton.1 hb]
    exact fun e => h2 (e ▸ ha)
set_option maxHeartbeats 8000000 in
set_option maxRecDepth 100000 in
theorem spcheck_any {E : Int} (A : Option Addr) (c : Nat) (l : List Sp) (w : World) (H : SpS w A l) (hl : l.length ≤ 9223372036854775807) (hE : Hid (ChkS l E)) :
    Calls Tryz.prog 87 #[.slice A l.length c] w (RetI w E) := by
  have hmm := @run_makeMap Tryz.prog
  by_cases h64 : l.length ≤ 64
  · have h8b : decide ((64 : Int) < (l.length : Int)) = false := decide_eq_false (by omega)
    have hM0 := World.ownsMap_made (H := Unit) w Tryz.prog 3 (plainElem Tryz.prog 4)
    have hb0 := below_alloc w (.map #[] 0)
    go_enter Tryz.func87, Tryz.ntmps87
    go_wp2
    go_loopg [4, 13] l.length (fun g tv i wr => ∃ (k : Nat) (tw : Bool), k + g = l.length ∧ i = .int .i64 (k : Int) ∧ tv = .bool tw ∧ Hid (∀ x ∈ l.take k, x.V) ∧ Hid (Tells tw (¬ ((l.take k).map Sp.id).Nodup)) ∧ wr.ownsMap Tryz.prog 3 (plainElem Tryz.prog 4) w.heap.size k (seenI ((l.take k).map Sp.id)) ∧ Below w.heap.size w wr)
    case atStart => exact ⟨0, false, by omega, rfl, rfl, Lib.hid (by simp), Lib.hid (no (by simp)), hM0, hb0⟩
    case round =>
      clear hM0 hb0
      obtain ⟨k, tw, hk, rfl, rfl, hg, ht, HM, hbw⟩ := hrel
      by_cases hk0 : k < l.length
      · obtain ⟨x, hx⟩ : ∃ x, Hid (l[k]? = some x) := ⟨_, Lib.hid (List.getElem?_eq_getElem hk0)⟩
        have hxm : x ∈ l := List.mem_of_getElem? hx.out
        have htk := Lib.hid (show l.take (k + 1) = l.take k ++ [x] by
          obtain ⟨hi, h2⟩ := List.getElem?_eq_some_iff.1 hx.out
          rw [List.take_succ_eq_append_getElem hi, h2])
        obtain ⟨ad, rfl, hbk, c0, c1, c2, c3, c4, c5, c6⟩ := (H.ext hbw).at_ hx.out
        have hsn := Lib.hid (show seenI ((l.take (k + 1)).map Sp.id) = (seenI ((l.take k).map Sp.id)).put (.int .i64 x.id) (.lit (.bool true)) by rw [htk.out, List.map_append]; exact seenI_snoc _ _)
        have HX : BL w wr [] := ⟨hbw, fun i p hp => by simp at hp⟩
        go_upto_region 8 with fail
        have hb := below_alloc wr (.cells #[.int .i64 x.id, .int .i64 x.ob, .int .i64 x.rv, .int .i64 x.os, .int .i64 x.rs, .int .i64 x.ax, .int .i64 x.wt] 40)
        replace HX := HX.new #[.int .i64 x.id, .int .i64 x.ob, .int .i64 x.rv, .int .i64 x.os, .int .i64 x.rs, .int .i64 x.ax, .int .i64 x.wt] 40
        simp only [List.nil_append] at HX
        replace HM := ownsMap_ext HM hb
        clear hb c0 c1 c2 c3 c4 c5 c6 hbk hbw
        generalize wr.alloc (.cells #[.int .i64 x.id, .int .i64 x.ob, .int .i64 x.rv, .int .i64 x.os, .int .i64 x.rs, .int .i64 x.ax, .int .i64 x.wt] 40) = W4 at *
        generalize wr.heap.size = g4 at *
        have hc00 := HX.cell 0 0 rfl rfl
        have hc01 := HX.cell 0 1 rfl rfl
        have hc02 := HX.cell 0 2 rfl rfl
        have hc03 := HX.cell 0 3 rfl rfl
        have hc04 := HX.cell 0 4 rfl rfl
        have hc05 := HX.cell 0 5 rfl rfl
        have hc06 := HX.cell 0 6 rfl rfl
        try simp only [List.getElem_toArray, List.getElem_cons_zero, List.getElem_cons_succ] at hc00 hc01 hc02 hc03 hc04 hc05 hc06
        by_cases hv : x.V
        · have YV := yes hv
          have WF : (Lit.int .i64 x.id).wf = true := WalkArith.wf_i64 (by have := hv.2.1; omega)
          have hgn := Lib.hid (show ∀ y ∈ l.take (k + 1), y.V from fun y hy => by
            rw [htk.out] at hy
            rcases List.mem_append.1 hy with h | h
            · exact hg.out y h
            · rw [List.mem_singleton.1 h]; exact hv)
          clear hv
          by_cases hd0 : x.id ∈ (l.take k).map Sp.id
          · have htn := Lib.hid (show Tells true (¬ ((l.take (k + 1)).map Sp.id).Nodup) from ⟨fun _ h => by
              rw [htk.out, List.map_append] at h
              exact (nodup_snoc.1 h).2 hd0, fun _ => rfl⟩)
            have hd := Lib.hid hd0
            clear hd0
            cases tw with
            | true =>
              go_wp2_with fail
              refine (spvalid_any x W4 YV).mono ?_
              rintro e w5 ⟨rfl, hb⟩
              replace HX := HX.ext hb
              replace HM := ownsMap_ext HM hb
              clear hb hc00 hc01 hc02 hc03 hc04 hc05 hc06
              have hc00 := HX.cell 0 0 rfl rfl
              have hc01 := HX.cell 0 1 rfl rfl
              have hc02 := HX.cell 0 2 rfl rfl
              have hc03 := HX.cell 0 3 rfl rfl
              have hc04 := HX.cell 0 4 rfl rfl
              have hc05 := HX.cell 0 5 rfl rfl
              have hc06 := HX.cell 0 6 rfl rfl
              try simp only [List.getElem_toArray, List.getElem_cons_zero, List.getElem_cons_succ] at hc00 hc01 hc02 hc03 hc04 hc05 hc06
              go_wp2_with (first
                | (at_mapUpdate; refine wpList_mapUpdate_own _ rfl _ _ _ 226 rfl 3 4 lawI Tryz.underlying226 _ w.heap.size k _ rfl HM (by unfold maxLen; omega) _ _ _ rfl rfl (keyOf_int_mk Tryz.underlying3 WF) _ [] (plainElem_bool Tryz.underlying4 true) ?_; intro w6 HM6 hgr))
              have hb6 : Below w.heap.size w w6 := HX.below.grown hgr HX.below.size (fun j hj => by cases hj; exact Nat.le_refl _)
              rw [← hsn.out] at HM6
              go_roundg (l.length - (k + 1))
              case measure => omega
              case rel => exact ⟨k + 1, true, by omega, by go_num, rfl, hgn, htn, HM6, hb6⟩
            | false =>
              go_wp2_with fail
              refine (spvalid_any x W4 YV).mono ?_
              rintro e w5 ⟨rfl, hb⟩
              replace HX := HX.ext hb
              replace HM := ownsMap_ext HM hb
              clear hb hc00 hc01 hc02 hc03 hc04 hc05 hc06
              have hc00 := HX.cell 0 0 rfl rfl
              have hc01 := HX.cell 0 1 rfl rfl
              have hc02 := HX.cell 0 2 rfl rfl
              have hc03 := HX.cell 0 3 rfl rfl
              have hc04 := HX.cell 0 4 rfl rfl
              have hc05 := HX.cell 0 5 rfl rfl
              have hc06 := HX.cell 0 6 rfl rfl
              try simp only [List.getElem_toArray, List.getElem_cons_zero, List.getElem_cons_succ] at hc00 hc01 hc02 hc03 hc04 hc05 hc06
              go_wp2_with (first
                | (at_lookup; refine wp_lookup_bool _ (by kernel_rfl) _ _ 226 rfl 3 4 lawI Tryz.underlying226 Tryz.underlying4 (zeroB _) w.heap.size k _ rfl HM _ _ rfl (keyOf_int_mk Tryz.underlying3 WF) ?_; intro cc hcc; obtain rfl : cc = true := (seenI_at hcc).2 hd.out; clear hcc)
                | (at_mapUpdate; refine wpList_mapUpdate_own _ rfl _ _ _ 226 rfl 3 4 lawI Tryz.underlying226 _ w.heap.size k _ rfl HM (by unfold maxLen; omega) _ _ _ rfl rfl (keyOf_int_mk Tryz.underlying3 WF) _ [] (plainElem_bool Tryz.underlying4 true) ?_; intro w6 HM6 hgr))
              have hb6 : Below w.heap.size w w6 := HX.below.grown hgr HX.below.size (fun j hj => by cases hj; exact Nat.le_refl _)
              rw [← hsn.out] at HM6
              go_roundg (l.length - (k + 1))
              case measure => omega
              case rel => exact ⟨k + 1, true, by omega, by go_num, rfl, hgn, htn, HM6, hb6⟩
          · have hd := Lib.hid hd0
            cases tw with
            | true =>
              have htn := Lib.hid (show Tells true (¬ ((l.take (k + 1)).map Sp.id).Nodup) from ⟨fun _ h => by
                rw [htk.out, List.map_append] at h
                exact ht.out.1 rfl (nodup_snoc.1 h).1, fun _ => rfl⟩)
              clear hd0
              go_wp2_with fail
              refine (spvalid_any x W4 YV).mono ?_
              rintro e w5 ⟨rfl, hb⟩
              replace HX := HX.ext hb
              replace HM := ownsMap_ext HM hb
              clear hb hc00 hc01 hc02 hc03 hc04 hc05 hc06
              have hc00 := HX.cell 0 0 rfl rfl
              have hc01 := HX.cell 0 1 rfl rfl
              have hc02 := HX.cell 0 2 rfl rfl
              have hc03 := HX.cell 0 3 rfl rfl
              have hc04 := HX.cell 0 4 rfl rfl
              have hc05 := HX.cell 0 5 rfl rfl
              have hc06 := HX.cell 0 6 rfl rfl
              try simp only [List.getElem_toArray, List.getElem_cons_zero, List.getElem_cons_succ] at hc00 hc01 hc02 hc03 hc04 hc05 hc06
              go_wp2_with (first
                | (at_mapUpdate; refine wpList_mapUpdate_own _ rfl _ _ _ 226 rfl 3 4 lawI Tryz.underlying226 _ w.heap.size k _ rfl HM (by unfold maxLen; omega) _ _ _ rfl rfl (keyOf_int_mk Tryz.underlying3 WF) _ [] (plainElem_bool Tryz.underlying4 true) ?_; intro w6 HM6 hgr))
              have hb6 : Below w.heap.size w w6 := HX.below.grown hgr HX.below.size (fun j hj => by cases hj; exact Nat.le_refl _)
              rw [← hsn.out] at HM6
              go_roundg (l.length - (k + 1))
              case measure => omega
              case rel => exact ⟨k + 1, true, by omega, by go_num, rfl, hgn, htn, HM6, hb6⟩
            | false =>
              have htn := Lib.hid (show Tells false (¬ ((l.take (k + 1)).map Sp.id).Nodup) from ⟨fun h => by (cases h), fun h => by
                exfalso
                refine h ?_
                rw [htk.out, List.map_append]
                refine nodup_snoc.2 ⟨?_, hd0⟩
                by_cases hn : ((l.take k).map Sp.id).Nodup
                · exact hn
                · have := ht.out.2 hn
                  cases this⟩)
              clear hd0
              go_wp2_with fail
              refine (spvalid_any x W4 YV).mono ?_
              rintro e w5 ⟨rfl, hb⟩
              replace HX := HX.ext hb
              replace HM := ownsMap_ext HM hb
              clear hb hc00 hc01 hc02 hc03 hc04 hc05 hc06
              have hc00 := HX.cell 0 0 rfl rfl
              have hc01 := HX.cell 0 1 rfl rfl
              have hc02 := HX.cell 0 2 rfl rfl
              have hc03 := HX.cell 0 3 rfl rfl
              have hc04 := HX.cell 0 4 rfl rfl
              have hc05 := HX.cell 0 5 rfl rfl
              have hc06 := HX.cell 0 6 rfl rfl
              try simp only [List.getElem_toArray, List.getElem_cons_zero, List.getElem_cons_succ] at hc00 hc01 hc02 hc03 hc04 hc05 hc06
              go_wp2_with (first
                | (at_lookup; refine wp_lookup_bool _ (by kernel_rfl) _ _ 226 rfl 3 4 lawI Tryz.underlying226 Tryz.underlying4 (zeroB _) w.heap.size k _ rfl HM _ _ rfl (keyOf_int_mk Tryz.underlying3 WF) ?_; intro cc hcc; obtain rfl : cc = false := (by cases cc; rfl; exact absurd ((seenI_at hcc).1 rfl) hd.out); clear hcc)
                | (at_mapUpdate; refine wpList_mapUpdate_own _ rfl _ _ _ 226 rfl 3 4 lawI Tryz.underlying226 _ w.heap.size k _ rfl HM (by unfold maxLen; omega) _ _ _ rfl rfl (keyOf_int_mk Tryz.underlying3 WF) _ [] (plainElem_bool Tryz.underlying4 true) ?_; intro w6 HM6 hgr))
              have hb6 : Below w.heap.size w w6 := HX.below.grown hgr HX.below.size (fun j hj => by cases hj; exact Nat.le_refl _)
              rw [← hsn.out] at HM6
              go_roundg (l.length - (k + 1))
              case measure => omega
              case rel => exact ⟨k + 1, false, by omega, by go_num, rfl, hgn, htn, HM6, hb6⟩
        · have NV := no hv
          obtain rfl := ChkS.uniq hE.out (.inr (.inl ⟨h64, ⟨x, hxm, hv⟩, rfl⟩))
          clear hv hE
          go_wp2_with fail
          refine (spvalid_any x W4 NV).mono ?_
          rintro e w5 ⟨rfl, hb⟩
          replace HX := HX.ext hb
          go_wp2
          go_ret
          exact ⟨rfl, HX.below⟩
      · obtain rfl : k = l.length := by omega
        rw [List.take_length] at hg ht
        cases tw with
        | true =>
          obtain rfl := ChkS.uniq hE.out (.inr (.inr (.inl ⟨h64, hg.out, ht.out.1 rfl, rfl⟩)))
          clear hE
          go_wp2
          go_ret
          exact ⟨rfl, hbw⟩
        | false =>
          obtain rfl := ChkS.uniq hE.out (.inr (.inr (.inr ⟨h64, hg.out, (by
            by_cases hn : (l.map Sp.id).Nodup
            · exact hn
            · have := ht.out.2 hn
              cases this), rfl⟩)))
          clear hE
          go_wp2
          go_ret
          exact ⟨rfl, hbw⟩
  · have h8b : decide ((64 : Int) < (l.length : Int)) = true := decide_eq_true (by omega)
    obtain rfl := ChkS.uniq hE.out (.inl ⟨by omega, rfl⟩)
    go_enter Tryz.func87, Tryz.ntmps87
    go_wp2
    go_ret
    exact ⟨rfl, Below.refl _ _⟩
end Go.Proofs.YtolkijelldlmeaaGreatDoor
