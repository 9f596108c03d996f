/- The program's text of a term. -/
import Derived.Test.YtolkijelldlmeaaGreatDoorYJnM
import Derived.Test.YtolkijelldlmeaaGreatDoorLb1
import Derived.Lib.Join
import Derived.Test.YtolkijelldlmeaaGreatDoorYFuM
import Derived.Test.YtolkijelldlmeaaGreatDoorYPmM
import Derived.Test.YtolkijelldlmeaaGreatDoorHoist
namespace Go.Proofs.YtolkijelldlmeaaGreatDoor
open Go.RowKit Go.Proofs Go

def scells (ws : List (List UInt8)) : List Value := ws.map fun x => .string (str x)
def SOwn (w : World) (B : Nat) (A : Option Addr) (c : Nat) (ws : List (List UInt8)) : Prop := Own w B 9 A ws.length c (scells ws)
theorem ES : Elt Tryz.prog 151 9 (.string ByteArray.empty) 16 := ⟨Tryz.underlying151, by kernel_rfl, rfl⟩
/-- a slice reads as these strings -/
def Ss (w : World) (A : Option Addr) (ws : List (List UInt8)) : Prop := 0 < ws.length → ∃ ad, A = some ad ∧ ad.block < w.heap.size ∧ ∀ (i : Nat) x, ws[i]? = some x → w.cell? (ad.add i) = some (.string (str x))
section
variable {w w' : World} {B c : Nat} {A : Option Addr} {ws : List (List UInt8)}
theorem SOwn.nil (w : World) (B : Nat) : SOwn w B none 0 [] := World.ownsRow_nil w B _ 1
theorem SOwn.ext (h : SOwn w B A c ws) (hb : Below w.heap.size w w') : SOwn w' B A c ws := Own.ext h hb
theorem SOwn.snoc {n : Nat} {x : List UInt8} (h : Own w B 9 A n c (scells ws ++ [.string (str x)])) (hn : n = ws.length + 1) : SOwn w B A c (ws ++ [x]) := by
  subst hn
  unfold SOwn
  rw [List.length_append, scells, List.map_append]
  exact h
theorem SOwn.at_ (h : SOwn w B A c ws) (h0 : 0 < ws.length) : ∃ g, A = some ⟨g, 0, none⟩ ∧ g < w.heap.size ∧ ws.length ≤ c ∧ ∀ (i : Nat) x, ws[i]? = some x → w.cell? ⟨g, 0 + i, none⟩ = some (.string (str x)) := by
  have h1 := h
  rcases h1.2 with ⟨_, h2⟩ | ⟨g, cap, cur, hv, _, hg, hnc, _⟩
  · omega
  · injection hv with hA _ hc
    subst hA hc
    refine ⟨g, rfl, (Array.getElem?_eq_some_iff.1 hg).1, hnc, fun i x hx => ?_⟩
    have := World.ownsRow.cells h rfl i _ (show (scells ws)[i]? = some (.string (str x)) by simp [scells, hx])
    rw [Addr.add_lit] at this
    exact this
theorem SOwn.ss (h : SOwn w B A c ws) : Ss w A ws := fun h0 => by
  obtain ⟨g, hA, hg, _, hc⟩ := h.at_ h0
  exact ⟨_, hA, hg, fun i x hx => by rw [Addr.add_lit]; exact hc i x hx⟩
theorem Ss.ext (h : Ss w A ws) (hb : Below w.heap.size w w') : Ss w' A ws := fun h0 => by
  obtain ⟨ad, h1, h2, h3⟩ := h h0
  exact ⟨ad, h1, Nat.lt_of_lt_of_le h2 hb.size, fun i x hx => by rw [hb.cell (by rw [addr_add_block]; exact h2)]; exact h3 i x hx⟩
theorem Ss.nil (w : World) (A : Option Addr) : Ss w A [] := fun h => absurd h (by simp)
theorem Ss.drop (h : Ss w A ws) {k : Nat} (hk : k ≤ ws.length) (hc : ws.length ≤ c) : Ss w (if c = k then A else A.map (·.add k)) (ws.drop k) := fun h0 => by
  rw [List.length_drop] at h0
  obtain ⟨ad, rfl, h2, h3⟩ := h (by omega)
  rw [if_neg (by omega)]
  refine ⟨ad.add k, rfl, by rw [addr_add_block]; exact h2, fun i x hx => ?_⟩
  rw [addr_add_add]
  exact h3 _ x (by rw [← hx, List.getElem?_drop])
end
/-- strings.Join -/
theorem join_any {w : World} {B c : Nat} {A : Option Addr} {ws : List (List UInt8)} {S T : List UInt8} (h : SOwn w B A c ws) (hT : Hid (Lib.join ws S = T)) (hc : ws = [] → A = none ∧ c = 0) (hl : ws.length ≤ 1000000) (hTl : T.length ≤ 1000000) :
    Calls Tryz.prog 136 #[.slice A ws.length c, .string (str S)] w fun e w' => e = .returned (.string (str T)) ∧ Below w.heap.size w w' := by
  by_cases h0 : 0 < ws.length
  · obtain ⟨g, rfl, hg, hcap, hcell⟩ := h.at_ h0
    have hm : (ws.map str).map (·.data.toList) = ws := by
      rw [List.map_map]
      conv => rhs; rw [← List.map_id ws]
      exact List.map_congr_left fun x _ => by simp [str]
    have hj : Lib.join ((ws.map str).map (·.data.toList)) (str S).data.toList = T := by rw [hm, ← hT.out]; simp [str]
    have := Tryz.strings_Join g 0 c (ws.map str) (str S) w (fun j x hx => by
      rw [List.getElem?_map] at hx
      obtain ⟨y, hy, rfl⟩ := Option.map_eq_some_iff.1 hx
      exact hcell j y hy) hg (by rw [List.length_map]; omega) (by rw [List.length_map]; exact hcap) (by rw [hj]; omega)
    rw [List.length_map, hj] at this
    exact this
  · obtain rfl : ws = [] := List.eq_nil_of_length_eq_zero (by omega)
    obtain ⟨rfl, rfl⟩ := hc rfl
    refine (Tryz.strings_Join_none _ _ _ w).mono ?_
    rintro e w' ⟨rfl, rfl⟩
    exact ⟨by rw [← hT.out]; rfl, Below.refl _ _⟩
end Go.Proofs.YtolkijelldlmeaaGreatDoor

namespace Go.Proofs.YtolkijelldlmeaaGreatDoor
open Go.RowKit Go.Proofs Go

namespace Tm
/-- a kid's text in a list of and -/
def andT (t : Tm) : List UInt8 := parB (decide (t.kind = 3)) (text t)
def sepW (w : Tok) : List UInt8 := 32 :: (w ++ [32])
theorem join_two (x y : List UInt8) (r : List (List UInt8)) (s : List UInt8) : Lib.join (x :: y :: r) s = x ++ (s ++ Lib.join (y :: r) s) := by
  rw [Lib.join_cons, Lib.join_cons, Lib.joinTail, Lib.joinTail, List.map_cons, List.flatten_cons]; simp
theorem textA_join : ∀ ts : List Tm, textA ts = Lib.join (ts.map andT) (sepW wAnd)
  | [] => rfl
  | [t] => by rw [textA, List.map_cons, List.map_nil, Lib.join_one]; rfl
  | t :: u :: r => by
    rw [textA, textA_join (u :: r), List.map_cons, List.map_cons, List.map_cons, join_two]
    simp [sepW, andT]
theorem textO_join : ∀ ts : List Tm, textO ts = Lib.join (ts.map text) (sepW wOr)
  | [] => rfl
  | [t] => by rw [textO, List.map_cons, List.map_nil, Lib.join_one]
  | t :: u :: r => by
    rw [textO, textO_join (u :: r), List.map_cons, List.map_cons, List.map_cons, join_two]
    simp [sepW]
theorem parB_len (c : Bool) (l : List UInt8) : (parB c l).length ≤ l.length + 2 := by cases c <;> simp [parB]
theorem nth_len {f : Int} : (nth fieldL f).length ≤ 8 ∧ (nth signL f).length ≤ 2 := by
  have key : ∀ (l : List Tok) (k : Nat), (∀ x ∈ l, x.length ≤ k) → (nth l f).length ≤ k := fun l k h => by
    rw [nth]
    cases hx : l[f.toNat - 1]? with
    | none => simp
    | some x => exact h x (List.mem_of_getElem? hx)
  exact ⟨key _ 8 (by decide), key _ 2 (by decide)⟩
/-- no text is long -/
theorem text_len : ∀ t : Tm, wf t → (text t).length ≤ 60 * size t := by
  have key : ∀ t : Tm, wf t → (text t).length + 12 ≤ 40 * size t + 12 * size t := by
    refine ind fun k f o v ks ih h => ?_
    rw [wf] at h
    have hwk := wfL_iff.1 h.2
    have hl := sizeL_len ks
    rcases h.1 with ⟨rfl, h1, h2, h3, h4, h5, h6, rfl⟩ | ⟨hk, rfl, rfl, rfl, h2, h3⟩ | ⟨rfl, rfl, rfl, rfl, h2⟩
    · rw [text_1, size]
      have a1 := (nth_len (f := f)).1
      have a2 := (nth_len (f := o)).2
      have a3 := dz_len (n := v) (k := 6) (by omega) (by omega) h5
      rw [dz] at a3
      simp [sizeL] at *
      omega
    · have key2 : ∀ (b : Bool) (ts : List Tm), (∀ t ∈ ts, (text t).length + 12 ≤ 40 * size t + 12 * size t) → (if b then textA ts else textO ts).length ≤ 52 * sizeL ts := by
        intro b ts
        induction ts with
        | nil => intro _; cases b <;> simp [textA, textO]
        | cons t r ih =>
          intro H
          have a1 := H t (by simp)
          have a2 := ih fun x hx => H x (List.mem_cons_of_mem _ hx)
          have a3 := parB_len (decide (t.kind = 3)) (text t)
          cases r with
          | nil => cases b <;> simp [textA, textO, sizeL] at * <;> omega
          | cons u r => cases b <;> simp [textA, textO, sizeL, wAnd, wOr] at * <;> omega
      rw [size]
      rcases hk with rfl | rfl
      · rw [text_2]
        have := key2 true ks fun t ht => ih t ht (hwk t ht)
        simp at this
        omega
      · rw [text_3]
        have := key2 false ks fun t ht => ih t ht (hwk t ht)
        simp at this
        omega
    · match ks, h2 with
      | [t], _ =>
        rw [text_4, size, textN, sizeL, sizeL]
        have a1 := ih t (by simp) (hwk t (by simp))
        have a2 := parB_len (decide (t.kind = 2 ∨ t.kind = 3)) (text t)
        simp [wNot] at *
        omega
  intro t h
  have := key t h
  omega
end Tm
def SLit (w : World) (g : Nat) (L : List Tok) : Prop := ∀ (i : Nat) (x : Tok), L[i]? = some x → w.cell? ⟨g, i, none⟩ = some (.string (str x))
theorem SLit.ext {w w' : World} {g : Nat} {L : List Tok} (h : SLit w g L) (hb : Below w.heap.size w w') : SLit w' g L := fun i x hx => by rw [hb.cell (cell_lt (h i x hx))]; exact h i x hx
theorem qfields_cells (w : World) : Calls Tryz.prog 163 #[] w fun e w' => ∃ g : Nat, e = .returned (.slice (some ⟨g, 0, none⟩) 8 8) ∧ SLit w' g ([] :: Tm.fieldL) ∧ Below w.heap.size w w' :=
  (qfields_any w).mono fun _ _ h => ⟨w.heap.size, h.1, fun i x hx => by
    rw [h.2]
    refine al_at rfl _ ?_
    match i, hx with
    | 0, hx => simp [Tm.fieldL] at hx; subst hx; rfl
    | 1, hx => simp [Tm.fieldL] at hx; subst hx; rfl
    | 2, hx => simp [Tm.fieldL] at hx; subst hx; rfl
    | 3, hx => simp [Tm.fieldL] at hx; subst hx; rfl
    | 4, hx => simp [Tm.fieldL] at hx; subst hx; rfl
    | 5, hx => simp [Tm.fieldL] at hx; subst hx; rfl
    | 6, hx => simp [Tm.fieldL] at hx; subst hx; rfl
    | 7, hx => simp [Tm.fieldL] at hx; subst hx; rfl
    | i + 8, hx => simp [Tm.fieldL] at hx, by rw [h.2]; exact below_alloc _ _⟩
theorem qsigns_cells (w : World) : Calls Tryz.prog 164 #[] w fun e w' => ∃ g : Nat, e = .returned (.slice (some ⟨g, 0, none⟩) 7 7) ∧ SLit w' g ([] :: Tm.signL) ∧ Below w.heap.size w w' :=
  (qsigns_any w).mono fun _ _ h => ⟨w.heap.size, h.1, fun i x hx => by
    rw [h.2]
    refine al_at rfl _ ?_
    match i, hx with
    | 0, hx => simp [Tm.signL] at hx; subst hx; rfl
    | 1, hx => simp [Tm.signL] at hx; subst hx; rfl
    | 2, hx => simp [Tm.signL] at hx; subst hx; rfl
    | 3, hx => simp [Tm.signL] at hx; subst hx; rfl
    | 4, hx => simp [Tm.signL] at hx; subst hx; rfl
    | 5, hx => simp [Tm.signL] at hx; subst hx; rfl
    | 6, hx => simp [Tm.signL] at hx; subst hx; rfl
    | i + 7, hx => simp [Tm.signL] at hx, by rw [h.2]; exact below_alloc _ _⟩
set_option maxHeartbeats 4000000 in
set_option maxRecDepth 100000 in
theorem qwrite_leaf (f o v : Int) (A : Option Addr) (c : Nat) (w : World) (hf1 : 1 ≤ f) (hf2 : f ≤ 7) (ho1 : 1 ≤ o) (ho2 : o ≤ 6) (hv0 : 0 ≤ v) (hv9 : v ≤ 999999) (hT : Tab w) :
    Calls Tryz.prog 96 #[.agg #[.int .i64 1, .int .i64 f, .int .i64 o, .int .i64 v, .slice A 0 c]] w fun e w' => e = .returned (.string (str (Tm.text (.mk 1 f o v [])))) ∧ Below w.heap.size w w' := by
  have hv1 : v ≤ 9223372036854775807 := by omega
  obtain ⟨P, hP⟩ : ∃ P, Hid (dz v = P) := ⟨_, Lib.hid rfl⟩
  have htx := Lib.hid (show Tm.text (.mk 1 f o v []) = Tm.nth Tm.fieldL f ++ 32 :: (Tm.nth Tm.signL o ++ 32 :: P) by rw [Tm.text_1, ← hP.out]; rfl)
  obtain ⟨fm, rfl⟩ := Int.eq_ofNat_of_zero_le (show 0 ≤ f by omega)
  obtain ⟨om, rfl⟩ := Int.eq_ofNat_of_zero_le (show 0 ≤ o by omega)
  obtain ⟨nf, hnf⟩ : ∃ x, Hid (Tm.nth Tm.fieldL (fm : Int) = x) := ⟨_, Lib.hid rfl⟩
  obtain ⟨np, hno⟩ : ∃ x, Hid (Tm.nth Tm.signL (om : Int) = x) := ⟨_, Lib.hid rfl⟩
  have hfn := Lib.hid (show ([] :: Tm.fieldL : List Tok)[fm]? = some nf by
    rw [← hnf.out]
    obtain rfl | rfl | rfl | rfl | rfl | rfl | rfl : fm = 1 ∨ fm = 2 ∨ fm = 3 ∨ fm = 4 ∨ fm = 5 ∨ fm = 6 ∨ fm = 7 := by omega
    all_goals rfl)
  have hon := Lib.hid (show ([] :: Tm.signL : List Tok)[om]? = some np by
    rw [← hno.out]
    obtain rfl | rfl | rfl | rfl | rfl | rfl : om = 1 ∨ om = 2 ∨ om = 3 ∨ om = 4 ∨ om = 5 ∨ om = 6 := by omega
    all_goals rfl)
  have hsf : (str nf).size ≤ 8 := by rw [str_size, ← hnf.out]; exact Tm.nth_len.1
  have hso : (str np).size ≤ 2 := by rw [str_size, ← hno.out]; exact Tm.nth_len.2
  have hsp : (str P).size ≤ 6 := by rw [str_size, ← hP.out]; exact dz_len (by omega) (by omega) hv0
  have z1 : ¬ 9223372036854775807 < (str nf).size + 1 := by omega
  have z2 : ¬ 9223372036854775807 < (str nf).size + 1 + (str np).size := by omega
  have z3 : ¬ 9223372036854775807 < (str nf).size + 1 + (str np).size + 1 := by omega
  have z4 : ¬ 9223372036854775807 < (str nf).size + 1 + (str np).size + 1 + (str P).size := by omega
  have hf8 : (fm : Int) < 8 := by omega
  have ho7 : (om : Int) < 7 := by omega
  have HX := BL.one w #[.int .i64 1, .int .i64 (fm : Int), .int .i64 (om : Int), .int .i64 v, .slice A 0 c] 55
  replace hT := hT.ext HX.below
  go_enter Tryz.func96, Tryz.ntmps96
  go_upto_region 1 with fail
  generalize w.alloc (.cells #[.int .i64 1, .int .i64 (fm : Int), .int .i64 (om : Int), .int .i64 v, .slice A 0 c] 55) = V at *
  have hc00 := HX.cell 0 0 rfl rfl
  try simp only [List.getElem_toArray, List.getElem_cons_zero] at hc00
  go_upto_region 2 with fail
  clear hc00
  refine wp_region_x (al := []) (late := [17]) (dst := fun i => 0) (zt := fun _ => (#[], 0)) (B := V.heap.size) (n := 17) (r := 1) (by kernel_rfl) (by kernel_rfl) (by decide) ?_ (by kernel_rfl) (by kernel_rfl) (by intro _ _ _ d _ h; cases d <;> exact h) (sz := 18) (by rfl) (by rfl) (Nat.le_refl _) ?_
  · intro i hi; cases hi
  have hE : Ext V V.drew := drew_ext V
  replace HX := HX.ext hE
  replace hT := hT.ext hE
  clear hE
  refine wpX_take (i := 1) (v := ?_) rfl (by kernel_rfl) (by kernel_rfl) (by kernel_rfl) (fun _ _ _ h => h) (Or.inl ⟨by rfl, fun W hW => ?_⟩) ?_
  rotate_left
  · go_simp <;> (try with_reducible rfl)
  try simp only [Act.put, List.setIfInBounds_toArray]
  refine wpX_take (i := 2) (v := ?_) rfl (by kernel_rfl) (by kernel_rfl) (by kernel_rfl) (fun _ _ _ h => h) (Or.inl ⟨by rfl, fun W hW => ?_⟩) ?_
  rotate_left
  · have h0 := (HX.ext hW).cell 0 1 rfl rfl
    simp only [List.getElem_toArray, List.getElem_cons_zero, List.getElem_cons_succ] at h0
    go_simp <;> (try with_reducible rfl)
  try simp only [Act.put]
  refine wpX_take (i := 7) (v := ?_) rfl (by kernel_rfl) (by kernel_rfl) (by kernel_rfl) (fun _ _ _ h => h) (Or.inl ⟨by rfl, fun W hW => ?_⟩) ?_
  rotate_left
  · go_simp <;> (try with_reducible rfl)
  try simp only [Act.put]
  refine wpX_take (i := 8) (v := ?_) rfl (by kernel_rfl) (by kernel_rfl) (by kernel_rfl) (fun _ _ _ h => h) (Or.inl ⟨by rfl, fun W hW => ?_⟩) ?_
  rotate_left
  · have h0 := (HX.ext hW).cell 0 2 rfl rfl
    simp only [List.getElem_toArray, List.getElem_cons_zero, List.getElem_cons_succ] at h0
    go_simp <;> (try with_reducible rfl)
  try simp only [Act.put]
  refine wpX_take (i := 13) (v := ?_) rfl (by kernel_rfl) (by kernel_rfl) (by kernel_rfl) (fun _ _ _ h => h) (Or.inl ⟨by rfl, fun W hW => ?_⟩) ?_
  rotate_left
  · go_simp <;> (try with_reducible rfl)
  try simp only [Act.put]
  refine wpX_take (i := 14) (v := ?_) rfl (by kernel_rfl) (by kernel_rfl) (by kernel_rfl) (fun _ _ _ h => h) (Or.inl ⟨by rfl, fun W hW => ?_⟩) ?_
  rotate_left
  · have h0 := (HX.ext hW).cell 0 3 rfl rfl
    simp only [List.getElem_toArray, List.getElem_cons_zero, List.getElem_cons_succ] at h0
    go_simp <;> (try with_reducible rfl)
  try simp only [Act.put]
  refine wpX_step (i := 0) (by kernel_rfl) rfl (fun W1 K hE hK => ?_)
  replace HX := HX.ext hE
  replace hT := hT.ext hE
  clear hE
  go_simp
  refine (qfields_cells _).mono ?_
  rintro e W2 ⟨ga, rfl, HFa, hb⟩
  go_wp2_with fail
  refine hK.out _ _ hb ?_
  clear hK K
  replace HX := HX.ext hb
  replace hT := hT.ext hb
  clear hb
  try simp only [Act.put, List.setIfInBounds_toArray, List.set_cons_zero, List.set_cons_succ]
  skip
  refine wpX_take (i := 3) (v := ?_) rfl (by kernel_rfl) (by kernel_rfl) (by kernel_rfl) (fun _ _ _ h => h) (Or.inl ⟨by rfl, fun W hW => ?_⟩) ?_
  rotate_left
  · go_simp <;> (try with_reducible rfl)
  try simp only [Act.put, List.setIfInBounds_toArray]
  refine wpX_take (i := 4) (v := ?_) rfl (by kernel_rfl) (by kernel_rfl) (by kernel_rfl) (fun _ _ _ h => h) (Or.inl ⟨by rfl, fun W hW => ?_⟩) ?_
  rotate_left
  · have h0 := (HFa.ext hW) _ _ hfn.out
    go_simp <;> (try with_reducible rfl)
  try simp only [Act.put]
  refine wpX_take (i := 5) (v := ?_) rfl (by kernel_rfl) (by kernel_rfl) (by kernel_rfl) (fun _ _ _ h => h) (Or.inl ⟨by rfl, fun W hW => ?_⟩) ?_
  rotate_left
  · go_simp <;> (try with_reducible rfl)
  try simp only [Act.put]
  refine wpX_step (i := 6) (by kernel_rfl) rfl (fun W1 K hE hK => ?_)
  replace HX := HX.ext hE
  replace hT := hT.ext hE
  replace HFa := HFa.ext hE
  clear hE
  go_simp
  refine (qsigns_cells _).mono ?_
  rintro e W2 ⟨gb, rfl, HFb, hb⟩
  go_wp2_with fail
  refine hK.out _ _ hb ?_
  clear hK K
  replace HX := HX.ext hb
  replace hT := hT.ext hb
  replace HFa := HFa.ext hb
  clear hb
  try simp only [Act.put, List.setIfInBounds_toArray, List.set_cons_zero, List.set_cons_succ]
  skip
  refine wpX_take (i := 9) (v := ?_) rfl (by kernel_rfl) (by kernel_rfl) (by kernel_rfl) (fun _ _ _ h => h) (Or.inl ⟨by rfl, fun W hW => ?_⟩) ?_
  rotate_left
  · go_simp <;> (try with_reducible rfl)
  try simp only [Act.put, List.setIfInBounds_toArray]
  refine wpX_take (i := 10) (v := ?_) rfl (by kernel_rfl) (by kernel_rfl) (by kernel_rfl) (fun _ _ _ h => h) (Or.inl ⟨by rfl, fun W hW => ?_⟩) ?_
  rotate_left
  · have h0 := (HFb.ext hW) _ _ hon.out
    go_simp <;> (try with_reducible rfl)
  try simp only [Act.put]
  refine wpX_take (i := 11) (v := ?_) rfl (by kernel_rfl) (by kernel_rfl) (by kernel_rfl) (fun _ _ _ h => h) (Or.inl ⟨by rfl, fun W hW => ?_⟩) ?_
  rotate_left
  · go_simp <;> (try with_reducible rfl)
  try simp only [Act.put]
  refine wpX_take (i := 12) (v := ?_) rfl (by kernel_rfl) (by kernel_rfl) (by kernel_rfl) (fun _ _ _ h => h) (Or.inl ⟨by rfl, fun W hW => ?_⟩) ?_
  rotate_left
  · go_simp <;> (try with_reducible rfl)
  try simp only [Act.put]
  refine wpX_step (i := 15) (by kernel_rfl) rfl (fun W1 K hE hK => ?_)
  replace HX := HX.ext hE
  replace hT := hT.ext hE
  replace HFa := HFa.ext hE
  replace HFb := HFb.ext hE
  clear hE
  go_simp
  refine (itoa_h _ hP hv0 hv1 hT).mono ?_
  rintro e W2 ⟨rfl, hb⟩
  go_wp2_with fail
  refine hK.out _ _ hb ?_
  clear hK K
  replace HX := HX.ext hb
  replace hT := hT.ext hb
  replace HFa := HFa.ext hb
  replace HFb := HFb.ext hb
  clear hb
  try simp only [Act.put, List.setIfInBounds_toArray, List.set_cons_zero, List.set_cons_succ]
  skip
  refine wpX_take (i := 16) (v := ?_) rfl (by kernel_rfl) (by kernel_rfl) (by kernel_rfl) (fun _ _ _ h => h) (Or.inl ⟨by rfl, fun W hW => ?_⟩) ?_
  rotate_left
  · go_simp <;> (try with_reducible rfl)
  try simp only [Act.put, List.setIfInBounds_toArray]
  refine wpX_end (by kernel_rfl) (fun W12 ga m hE hg hm => ?_)
  replace HX := HX.ext hE
  replace hT := hT.ext hE
  replace HFa := HFa.ext hE
  replace HFb := HFb.ext hE
  clear hE
  clear hg
  simp only [putAll, setAll]
  clear ga
  refine wpAny_step (i := 17) (by kernel_rfl) rfl (by omega) (fun K hK => ?_)
  go_simp
  refine hK.out _ _ ?_
  clear hK K
  refine wpAny_done (by kernel_rfl) ?_ _
  go_wp2
  go_ret
  exact ⟨by rw [htx.out, hnf.out, hno.out, show (⟨#[32]⟩ : ByteArray) = str [32] from rfl]; simp only [str_append]; simp, HX.below⟩
namespace Tm
/-- a kid's text in a list, or behind not -/
def ptxt (k : Int) (t : Tm) : List UInt8 := parB (if k = 2 then decide (t.kind = 3) else if k = 3 then false else decide (t.kind = 2 ∨ t.kind = 3)) (text t)
end Tm
set_option maxHeartbeats 8000000 in
set_option maxRecDepth 100000 in
theorem qwrite_any : ∀ (t : TT) (w : World), t.tm.wf → t.tm.size ≤ 1000 → t.Mem w → Tab w →
    Calls Tryz.prog 96 #[t.val] w fun e w' => e = .returned (.string (str (Tm.text t.tm))) ∧ Below w.heap.size w w' := by
  refine fun t => TT.ind (P := fun t => ∀ (w : World), t.tm.wf → t.tm.size ≤ 1000 → t.Mem w → Tab w → Calls Tryz.prog 96 #[t.val] w fun e w' => e = .returned (.string (str (Tm.text t.tm))) ∧ Below w.heap.size w w') (fun t ih0 w hw hs HM0 hT => ?_) t
  obtain ⟨k, f, o, v, A, c, ks⟩ := t
  obtain ⟨HK, hl, HM⟩ := HM0.kids
  clear HM0
  have ih : ∀ x ∈ ks, ∀ (w : World), x.tm.wf → x.tm.size ≤ 1000 → x.Mem w → Tab w → Calls Tryz.prog 96 #[x.val] w fun e w' => e = .returned (.string (str (Tm.text x.tm))) ∧ Below w.heap.size w w' := ih0
  clear ih0
  show Calls _ _ #[.agg #[.int .i64 k, .int .i64 f, .int .i64 o, .int .i64 v, .slice A ks.length c]] w _
  have hw2 := hw
  rw [TT.tm_mk, Tm.wf, Tm.wfL_iff] at hw2
  have hwk := Lib.hid (show ∀ x ∈ ks, x.tm.wf from fun x hx => hw2.2 _ (List.mem_map_of_mem hx))
  have hsk := Lib.hid (show ∀ x ∈ ks, x.tm.size ≤ 1000 from fun x hx => by have := TT.size_kid (t := TT.mk k f o v A c ks) hx; omega)
  have hkl : ks.length ≤ 1000 := by have h1 := Tm.sizeL_len (ks.map TT.tm); rw [List.length_map] at h1; rw [TT.tm_mk, Tm.size] at hs; omega
  have hTXl0 := Tm.text_len _ hw
  have hsh := hw2.1
  obtain ⟨TX, hTX⟩ : ∃ T, Hid (Tm.text (TT.mk k f o v A c ks).tm = T) := ⟨_, Lib.hid rfl⟩
  have hTXl : TX.length ≤ 1000000 := by rw [← hTX.out]; omega
  clear hw2 hw hs hTXl0
  have HX := BL.one w #[.int .i64 k, .int .i64 f, .int .i64 o, .int .i64 v, .slice A ks.length c] 55
  obtain ⟨B, hB⟩ : ∃ B, Hid ((w.alloc (.cells #[.int .i64 k, .int .i64 f, .int .i64 o, .int .i64 v, .slice A ks.length c] 55)).heap.size = B) := ⟨_, Lib.hid rfl⟩
  have hB2 : B = w.heap.size + 1 := by rw [← hB.out]; simp
  rcases hsh with ⟨rfl, hf1, hf2, ho1, ho2, hv1, hv2, hks⟩ | ⟨hk, rfl, rfl, rfl, h2, _⟩ | ⟨rfl, rfl, rfl, rfl, h1⟩
  · rw [List.map_eq_nil_iff] at hks
    subst hks
    exact qwrite_leaf f o v A c w hf1 hf2 ho1 ho2 hv1 hv2 hT
  · rw [hTX.out]
    go_enter Tryz.func96, Tryz.ntmps96
    go_upto_region 1 with fail
    generalize w.alloc (.cells #[.int .i64 k, .int .i64 0, .int .i64 0, .int .i64 0, .slice A ks.length c] 55) = V at *
    have hBy := hB.out
    rcases hk with rfl | rfl
    · have hc00 := HX.cell 0 0 rfl rfl
      have hc01 := HX.cell 0 1 rfl rfl
      have hc02 := HX.cell 0 2 rfl rfl
      have hc03 := HX.cell 0 3 rfl rfl
      have hc04 := HX.cell 0 4 rfl rfl
      try simp only [List.getElem_toArray, List.getElem_cons_zero, List.getElem_cons_succ] at hc00 hc01 hc02 hc03 hc04
      go_upto_region 3 with fail
      go_wp2
      go_loopg [3, 6, 30] ks.length (fun g p3 _ i wr => ∃ (j : Nat) (A8 : Option Addr) (c8 : Nat) (ps : List (List UInt8)), j + g = ks.length ∧ i = .int .i64 (j : Int) ∧ p3 = .slice A8 ps.length c8 ∧ SOwn wr B A8 c8 ps ∧ Hid (ps = (TT.pre ks j).map (Tm.ptxt 2)) ∧ Hid (ps = [] → A8 = none ∧ c8 = 0) ∧ Below B V wr)
      case atStart => exact ⟨0, none, 0, [], by omega, rfl, rfl, SOwn.nil _ _, Lib.hid rfl, Lib.hid (fun _ => ⟨rfl, rfl⟩), Below.refl _ _⟩
      case round =>
        obtain ⟨j, A8, c8, ps, hj, rfl, rfl, HOWN, hps, hnil, hbV⟩ := hrel
        have hBr : B ≤ wr.heap.size := by have := hbV.size; omega
        have HX := HX.low (by omega) (by intro i p hp; match i, hp with | 0, hp => (simp at hp; subst hp; simp; omega) | i + 1, hp => simp at hp) hbV
        by_cases hjl : j < ks.length
        · obtain ⟨x, hx⟩ : ∃ x, Hid (ks[j]? = some x) := ⟨_, Lib.hid (List.getElem?_eq_getElem hjl)⟩
          have hxm : x ∈ ks := List.mem_of_getElem? hx.out
          have hxM := (HM x hxm).ext HX.below
          have hTr := hT.ext HX.below
          have hlp := Lib.hid (show ps.length = j by rw [hps.out, List.length_map, TT.pre, List.length_map, List.length_take]; omega)
          have hplb : ps.length ≤ 1000 := by rw [hlp.out]; omega
          obtain ⟨T, hTx⟩ : ∃ T, Hid (Tm.text x.tm = T) := ⟨_, Lib.hid rfl⟩
          have hTl : (str T).size ≤ 60000 := by
            have h1 := Tm.text_len x.tm (hwk.out x hxm)
            have h2 := hsk.out x hxm
            rw [hTx.out] at h1
            rw [str_size]; omega
          have z1 : ¬ 9223372036854775807 < 1 + (str T).size := by omega
          have z2 : ¬ 9223372036854775807 < 1 + (str T).size + 1 := by omega
          have ihx := fun W => ih x hxm W (hwk.out x hxm) (hsk.out x hxm)
          rw [hTx.out] at ihx
          obtain ⟨ad, rfl, hadb, e0, e1, e2, e3, e4⟩ := (HK.ext HX.below).at_ hx.out
          obtain ⟨kx, fx, ox, vx, Ax, cx, xs⟩ := x
          change wr.cell? _ = some (.int .i64 kx) at e0
          change wr.cell? _ = some (.int .i64 fx) at e1
          change wr.cell? _ = some (.int .i64 ox) at e2
          change wr.cell? _ = some (.int .i64 vx) at e3
          change wr.cell? _ = some (.slice Ax xs.length cx) at e4
          go_upto_region 7 with fail
          have hb := below_alloc wr (.cells #[.int .i64 kx, .int .i64 fx, .int .i64 ox, .int .i64 vx, .slice Ax xs.length cx] 55)
          have HXk := BL.one wr #[.int .i64 kx, .int .i64 fx, .int .i64 ox, .int .i64 vx, .slice Ax xs.length cx] 55
          replace HX := HX.ext hb
          replace HOWN := HOWN.ext hb
          replace hxM := hxM.ext hb
          replace hTr := hTr.ext hb
          replace hbV := hbV.trans (hb.mono hBr)
          replace hBr := Nat.le_trans hBr hb.size
          clear hb e0 e1 e2 e3 e4 hadb
          generalize wr.alloc (.cells #[.int .i64 kx, .int .i64 fx, .int .i64 ox, .int .i64 vx, .slice Ax xs.length cx] 55) = W1 at *
          generalize hgw : wr.heap.size = g1 at *
          clear hgw
          have hk0 := HXk.cell 0 0 rfl rfl
          have hk1 := HXk.cell 0 1 rfl rfl
          have hk2 := HXk.cell 0 2 rfl rfl
          have hk3 := HXk.cell 0 3 rfl rfl
          have hk4 := HXk.cell 0 4 rfl rfl
          simp only [List.getElem_toArray, List.getElem_cons_zero, List.getElem_cons_succ] at hk0 hk1 hk2 hk3 hk4
          have hkb := cell_lt hk0
          go_wp2_with fail
          refine (ihx W1 hxM hTr).mono ?_
          rintro e w5 ⟨rfl, hb5⟩
          replace hk0 : w5.cell? ⟨g1, 0, none⟩ = some (.int .i64 kx) := by rw [hb5.cell (by exact hkb)]; exact hk0
          clear HXk hk1 hk2 hk3 hk4 hkb
          replace HX := HX.ext hb5
          replace HOWN := HOWN.ext hb5
          replace hbV := hbV.trans (hb5.mono hBr)
          replace hBr := Nat.le_trans hBr hb5.size
          clear hb5 ihx
          clear hc00 hc01 hc02 hc03 hc04
          have hc00 := HX.cell 0 0 rfl rfl
          try simp only [List.getElem_toArray, List.getElem_cons_zero] at hc00
          by_cases hk3 : kx = 3
          · subst hk3
            have hpt := Lib.hid (show Tm.ptxt 2 (TT.mk 3 fx ox vx Ax cx xs).tm = (40 :: (T ++ [41])) by
              rw [Tm.ptxt, ← hTx.out, TT.tm_mk]
              rfl)
            have hps2 := Lib.hid (show ps ++ [(40 :: (T ++ [41]))] = (TT.pre ks (j + 1)).map (Tm.ptxt 2) by rw [TT.pre_succ hx.out, List.map_append, ← hps.out, List.map_cons, hpt.out]; rfl)
            have HT9 : Hid (Value.string (⟨#[40]⟩ ++ str T ++ ⟨#[41]⟩) = Value.string (str (40 :: (T ++ [41])))) := Lib.hid (by rw [show (⟨#[40]⟩ : ByteArray) = str [40] from rfl, show (⟨#[41]⟩ : ByteArray) = str [41] from rfl, str_append, str_append]; simp)
            have hkx2 := hx
            clear hx hpt hps
            go_wp2_with (at_builtin; refine wp_push ES _ rfl _ _ rfl rfl rfl HOWN (by rfl) (by omega) (by omega) hBr ?_; intro A9 c9 w9 hown9 hgr hbl hlt)
            rw [HT9.out] at hown9
            replace hown9 := SOwn.snoc hown9 rfl
            go_roundg (ks.length - (j + 1))
            case measure => omega
            case rel => exact ⟨j + 1, A9, c9, ps ++ [(40 :: (T ++ [41]))], by omega, by go_num, by rw [List.length_append]; rfl, hown9, hps2, Lib.hid (by simp), hbV.trans hbl⟩
          · have q3 : (kx == 3) = false := beq_eq_false_iff_ne.2 hk3
            have hpt := Lib.hid (show Tm.ptxt 2 (TT.mk kx fx ox vx Ax cx xs).tm = T by
              rw [Tm.ptxt, ← hTx.out, TT.tm_mk]
              show Tm.parB (decide (kx = 3)) _ = _; rw [decide_eq_false hk3]; rfl)
            have hps2 := Lib.hid (show ps ++ [T] = (TT.pre ks (j + 1)).map (Tm.ptxt 2) by rw [TT.pre_succ hx.out, List.map_append, ← hps.out, List.map_cons, hpt.out]; rfl)
            have hkx2 := hx
            clear hx hpt hps
            go_wp2_with (at_builtin; refine wp_push ES _ rfl _ _ rfl rfl rfl HOWN (by rfl) (by omega) (by omega) hBr ?_; intro A9 c9 w9 hown9 hgr hbl hlt)
            replace hown9 := SOwn.snoc hown9 rfl
            go_roundg (ks.length - (j + 1))
            case measure => omega
            case rel => exact ⟨j + 1, A9, c9, ps ++ [T], by omega, by go_num, by rw [List.length_append]; rfl, hown9, hps2, Lib.hid (by simp), hbV.trans hbl⟩
        · obtain rfl : j = ks.length := by omega
          rw [TT.pre_all] at hps
          clear hc00 hc01 hc02 hc03 hc04
          have hc00 := HX.cell 0 0 rfl rfl
          try simp only [List.getElem_toArray, List.getElem_cons_zero] at hc00
          have hjn := Lib.hid (show Lib.join ps (Tm.sepW Tm.wAnd) = TX by rw [hps.out, ← hTX.out, TT.tm_mk, Tm.text_2, Tm.textA_join]; rfl)
          have hpl : ps.length ≤ 1000000 := by rw [hps.out, List.length_map, List.length_map]; omega
          clear hps
          go_wp2_with fail
          refine (join_any HOWN hjn hnil.out hpl hTXl).mono ?_
          rintro e w6 ⟨rfl, hb6⟩
          replace HX := HX.ext hb6
          go_wp2
          go_ret
          exact ⟨rfl, HX.below⟩
    · have hc00 := HX.cell 0 0 rfl rfl
      have hc01 := HX.cell 0 1 rfl rfl
      have hc02 := HX.cell 0 2 rfl rfl
      have hc03 := HX.cell 0 3 rfl rfl
      have hc04 := HX.cell 0 4 rfl rfl
      try simp only [List.getElem_toArray, List.getElem_cons_zero, List.getElem_cons_succ] at hc00 hc01 hc02 hc03 hc04
      go_upto_region 3 with fail
      go_wp2
      go_loopg [3, 6, 30] ks.length (fun g p3 _ i wr => ∃ (j : Nat) (A8 : Option Addr) (c8 : Nat) (ps : List (List UInt8)), j + g = ks.length ∧ i = .int .i64 (j : Int) ∧ p3 = .slice A8 ps.length c8 ∧ SOwn wr B A8 c8 ps ∧ Hid (ps = (TT.pre ks j).map (Tm.ptxt 3)) ∧ Hid (ps = [] → A8 = none ∧ c8 = 0) ∧ Below B V wr)
      case atStart => exact ⟨0, none, 0, [], by omega, rfl, rfl, SOwn.nil _ _, Lib.hid rfl, Lib.hid (fun _ => ⟨rfl, rfl⟩), Below.refl _ _⟩
      case round =>
        obtain ⟨j, A8, c8, ps, hj, rfl, rfl, HOWN, hps, hnil, hbV⟩ := hrel
        have hBr : B ≤ wr.heap.size := by have := hbV.size; omega
        have HX := HX.low (by omega) (by intro i p hp; match i, hp with | 0, hp => (simp at hp; subst hp; simp; omega) | i + 1, hp => simp at hp) hbV
        by_cases hjl : j < ks.length
        · obtain ⟨x, hx⟩ : ∃ x, Hid (ks[j]? = some x) := ⟨_, Lib.hid (List.getElem?_eq_getElem hjl)⟩
          have hxm : x ∈ ks := List.mem_of_getElem? hx.out
          have hxM := (HM x hxm).ext HX.below
          have hTr := hT.ext HX.below
          have hlp := Lib.hid (show ps.length = j by rw [hps.out, List.length_map, TT.pre, List.length_map, List.length_take]; omega)
          have hplb : ps.length ≤ 1000 := by rw [hlp.out]; omega
          obtain ⟨T, hTx⟩ : ∃ T, Hid (Tm.text x.tm = T) := ⟨_, Lib.hid rfl⟩
          have hTl : (str T).size ≤ 60000 := by
            have h1 := Tm.text_len x.tm (hwk.out x hxm)
            have h2 := hsk.out x hxm
            rw [hTx.out] at h1
            rw [str_size]; omega
          have z1 : ¬ 9223372036854775807 < 1 + (str T).size := by omega
          have z2 : ¬ 9223372036854775807 < 1 + (str T).size + 1 := by omega
          have ihx := fun W => ih x hxm W (hwk.out x hxm) (hsk.out x hxm)
          rw [hTx.out] at ihx
          obtain ⟨ad, rfl, hadb, e0, e1, e2, e3, e4⟩ := (HK.ext HX.below).at_ hx.out
          obtain ⟨kx, fx, ox, vx, Ax, cx, xs⟩ := x
          change wr.cell? _ = some (.int .i64 kx) at e0
          change wr.cell? _ = some (.int .i64 fx) at e1
          change wr.cell? _ = some (.int .i64 ox) at e2
          change wr.cell? _ = some (.int .i64 vx) at e3
          change wr.cell? _ = some (.slice Ax xs.length cx) at e4
          go_upto_region 7 with fail
          have hb := below_alloc wr (.cells #[.int .i64 kx, .int .i64 fx, .int .i64 ox, .int .i64 vx, .slice Ax xs.length cx] 55)
          have HXk := BL.one wr #[.int .i64 kx, .int .i64 fx, .int .i64 ox, .int .i64 vx, .slice Ax xs.length cx] 55
          replace HX := HX.ext hb
          replace HOWN := HOWN.ext hb
          replace hxM := hxM.ext hb
          replace hTr := hTr.ext hb
          replace hbV := hbV.trans (hb.mono hBr)
          replace hBr := Nat.le_trans hBr hb.size
          clear hb e0 e1 e2 e3 e4 hadb
          generalize wr.alloc (.cells #[.int .i64 kx, .int .i64 fx, .int .i64 ox, .int .i64 vx, .slice Ax xs.length cx] 55) = W1 at *
          generalize hgw : wr.heap.size = g1 at *
          clear hgw
          have hk0 := HXk.cell 0 0 rfl rfl
          have hk1 := HXk.cell 0 1 rfl rfl
          have hk2 := HXk.cell 0 2 rfl rfl
          have hk3 := HXk.cell 0 3 rfl rfl
          have hk4 := HXk.cell 0 4 rfl rfl
          simp only [List.getElem_toArray, List.getElem_cons_zero, List.getElem_cons_succ] at hk0 hk1 hk2 hk3 hk4
          have hkb := cell_lt hk0
          go_wp2_with fail
          refine (ihx W1 hxM hTr).mono ?_
          rintro e w5 ⟨rfl, hb5⟩
          replace hk0 : w5.cell? ⟨g1, 0, none⟩ = some (.int .i64 kx) := by rw [hb5.cell (by exact hkb)]; exact hk0
          clear HXk hk1 hk2 hk3 hk4 hkb
          replace HX := HX.ext hb5
          replace HOWN := HOWN.ext hb5
          replace hbV := hbV.trans (hb5.mono hBr)
          replace hBr := Nat.le_trans hBr hb5.size
          clear hb5 ihx
          clear hc00 hc01 hc02 hc03 hc04
          have hc00 := HX.cell 0 0 rfl rfl
          try simp only [List.getElem_toArray, List.getElem_cons_zero] at hc00
          have hpt := Lib.hid (show Tm.ptxt 3 (TT.mk kx fx ox vx Ax cx xs).tm = T by
            rw [Tm.ptxt, ← hTx.out, TT.tm_mk]
            rfl)
          have hps2 := Lib.hid (show ps ++ [T] = (TT.pre ks (j + 1)).map (Tm.ptxt 3) by rw [TT.pre_succ hx.out, List.map_append, ← hps.out, List.map_cons, hpt.out]; rfl)
          have hkx2 := hx
          clear hx hpt hps
          go_wp2_with (at_builtin; refine wp_push ES _ rfl _ _ rfl rfl rfl HOWN (by rfl) (by omega) (by omega) hBr ?_; intro A9 c9 w9 hown9 hgr hbl hlt)
          replace hown9 := SOwn.snoc hown9 rfl
          go_roundg (ks.length - (j + 1))
          case measure => omega
          case rel => exact ⟨j + 1, A9, c9, ps ++ [T], by omega, by go_num, by rw [List.length_append]; rfl, hown9, hps2, Lib.hid (by simp), hbV.trans hbl⟩
        · obtain rfl : j = ks.length := by omega
          rw [TT.pre_all] at hps
          clear hc00 hc01 hc02 hc03 hc04
          have hc00 := HX.cell 0 0 rfl rfl
          try simp only [List.getElem_toArray, List.getElem_cons_zero] at hc00
          have hjn := Lib.hid (show Lib.join ps (Tm.sepW Tm.wOr) = TX by rw [hps.out, ← hTX.out, TT.tm_mk, Tm.text_3, Tm.textO_join]; rfl)
          have hpl : ps.length ≤ 1000000 := by rw [hps.out, List.length_map, List.length_map]; omega
          clear hps
          go_wp2_with fail
          refine (join_any HOWN hjn hnil.out hpl hTXl).mono ?_
          rintro e w6 ⟨rfl, hb6⟩
          replace HX := HX.ext hb6
          go_wp2
          go_ret
          exact ⟨rfl, HX.below⟩
  · rw [List.length_map] at h1
    replace h1 := Lib.hid h1
    rw [hTX.out]
    go_enter Tryz.func96, Tryz.ntmps96
    go_upto_region 1 with fail
    generalize w.alloc (.cells #[.int .i64 4, .int .i64 0, .int .i64 0, .int .i64 0, .slice A ks.length c] 55) = V at *
    have hBy := hB.out
    have hc00 := HX.cell 0 0 rfl rfl
    have hc01 := HX.cell 0 1 rfl rfl
    have hc02 := HX.cell 0 2 rfl rfl
    have hc03 := HX.cell 0 3 rfl rfl
    have hc04 := HX.cell 0 4 rfl rfl
    try simp only [List.getElem_toArray, List.getElem_cons_zero, List.getElem_cons_succ] at hc00 hc01 hc02 hc03 hc04
    go_upto_region 3 with fail
    go_wp2
    go_loopg [3, 6, 30] ks.length (fun g p3 _ i wr => ∃ (j : Nat) (A8 : Option Addr) (c8 : Nat) (ps : List (List UInt8)), j + g = ks.length ∧ i = .int .i64 (j : Int) ∧ p3 = .slice A8 ps.length c8 ∧ SOwn wr B A8 c8 ps ∧ Hid (ps = (TT.pre ks j).map (Tm.ptxt 4)) ∧ Hid (ps = [] → A8 = none ∧ c8 = 0) ∧ Below B V wr)
    case atStart => exact ⟨0, none, 0, [], by omega, rfl, rfl, SOwn.nil _ _, Lib.hid rfl, Lib.hid (fun _ => ⟨rfl, rfl⟩), Below.refl _ _⟩
    case round =>
      obtain ⟨j, A8, c8, ps, hj, rfl, rfl, HOWN, hps, hnil, hbV⟩ := hrel
      have hBr : B ≤ wr.heap.size := by have := hbV.size; omega
      have HX := HX.low (by omega) (by intro i p hp; match i, hp with | 0, hp => (simp at hp; subst hp; simp; omega) | i + 1, hp => simp at hp) hbV
      by_cases hjl : j < ks.length
      · obtain ⟨x, hx⟩ : ∃ x, Hid (ks[j]? = some x) := ⟨_, Lib.hid (List.getElem?_eq_getElem hjl)⟩
        have hxm : x ∈ ks := List.mem_of_getElem? hx.out
        have hxM := (HM x hxm).ext HX.below
        have hTr := hT.ext HX.below
        have hlp := Lib.hid (show ps.length = j by rw [hps.out, List.length_map, TT.pre, List.length_map, List.length_take]; omega)
        have hplb : ps.length ≤ 1000 := by rw [hlp.out]; omega
        obtain ⟨T, hTx⟩ : ∃ T, Hid (Tm.text x.tm = T) := ⟨_, Lib.hid rfl⟩
        have hTl : (str T).size ≤ 60000 := by
          have h1 := Tm.text_len x.tm (hwk.out x hxm)
          have h2 := hsk.out x hxm
          rw [hTx.out] at h1
          rw [str_size]; omega
        have z1 : ¬ 9223372036854775807 < 1 + (str T).size := by omega
        have z2 : ¬ 9223372036854775807 < 1 + (str T).size + 1 := by omega
        have ihx := fun W => ih x hxm W (hwk.out x hxm) (hsk.out x hxm)
        rw [hTx.out] at ihx
        obtain ⟨ad, rfl, hadb, e0, e1, e2, e3, e4⟩ := (HK.ext HX.below).at_ hx.out
        obtain ⟨kx, fx, ox, vx, Ax, cx, xs⟩ := x
        change wr.cell? _ = some (.int .i64 kx) at e0
        change wr.cell? _ = some (.int .i64 fx) at e1
        change wr.cell? _ = some (.int .i64 ox) at e2
        change wr.cell? _ = some (.int .i64 vx) at e3
        change wr.cell? _ = some (.slice Ax xs.length cx) at e4
        go_upto_region 7 with fail
        have hb := below_alloc wr (.cells #[.int .i64 kx, .int .i64 fx, .int .i64 ox, .int .i64 vx, .slice Ax xs.length cx] 55)
        have HXk := BL.one wr #[.int .i64 kx, .int .i64 fx, .int .i64 ox, .int .i64 vx, .slice Ax xs.length cx] 55
        replace HX := HX.ext hb
        replace HOWN := HOWN.ext hb
        replace hxM := hxM.ext hb
        replace hTr := hTr.ext hb
        replace hbV := hbV.trans (hb.mono hBr)
        replace hBr := Nat.le_trans hBr hb.size
        clear hb e0 e1 e2 e3 e4 hadb
        generalize wr.alloc (.cells #[.int .i64 kx, .int .i64 fx, .int .i64 ox, .int .i64 vx, .slice Ax xs.length cx] 55) = W1 at *
        generalize hgw : wr.heap.size = g1 at *
        clear hgw
        have hk0 := HXk.cell 0 0 rfl rfl
        have hk1 := HXk.cell 0 1 rfl rfl
        have hk2 := HXk.cell 0 2 rfl rfl
        have hk3 := HXk.cell 0 3 rfl rfl
        have hk4 := HXk.cell 0 4 rfl rfl
        simp only [List.getElem_toArray, List.getElem_cons_zero, List.getElem_cons_succ] at hk0 hk1 hk2 hk3 hk4
        have hkb := cell_lt hk0
        go_wp2_with fail
        refine (ihx W1 hxM hTr).mono ?_
        rintro e w5 ⟨rfl, hb5⟩
        replace hk0 : w5.cell? ⟨g1, 0, none⟩ = some (.int .i64 kx) := by rw [hb5.cell (by exact hkb)]; exact hk0
        clear HXk hk1 hk2 hk3 hk4 hkb
        replace HX := HX.ext hb5
        replace HOWN := HOWN.ext hb5
        replace hbV := hbV.trans (hb5.mono hBr)
        replace hBr := Nat.le_trans hBr hb5.size
        clear hb5 ihx
        clear hc00 hc01 hc02 hc03 hc04
        have hc00 := HX.cell 0 0 rfl rfl
        try simp only [List.getElem_toArray, List.getElem_cons_zero] at hc00
        by_cases hk2 : kx = 2
        · subst hk2
          have hpt := Lib.hid (show Tm.ptxt 4 (TT.mk 2 fx ox vx Ax cx xs).tm = (40 :: (T ++ [41])) by
            rw [Tm.ptxt, ← hTx.out, TT.tm_mk]
            rfl)
          have hps2 := Lib.hid (show ps ++ [(40 :: (T ++ [41]))] = (TT.pre ks (j + 1)).map (Tm.ptxt 4) by rw [TT.pre_succ hx.out, List.map_append, ← hps.out, List.map_cons, hpt.out]; rfl)
          have HT9 : Hid (Value.string (⟨#[40]⟩ ++ str T ++ ⟨#[41]⟩) = Value.string (str (40 :: (T ++ [41])))) := Lib.hid (by rw [show (⟨#[40]⟩ : ByteArray) = str [40] from rfl, show (⟨#[41]⟩ : ByteArray) = str [41] from rfl, str_append, str_append]; simp)
          have hkx2 := hx
          clear hx hpt hps
          go_wp2_with (at_builtin; refine wp_push ES _ rfl _ _ rfl rfl rfl HOWN (by rfl) (by omega) (by omega) hBr ?_; intro A9 c9 w9 hown9 hgr hbl hlt)
          rw [HT9.out] at hown9
          replace hown9 := SOwn.snoc hown9 rfl
          go_roundg (ks.length - (j + 1))
          case measure => omega
          case rel => exact ⟨j + 1, A9, c9, ps ++ [(40 :: (T ++ [41]))], by omega, by go_num, by rw [List.length_append]; rfl, hown9, hps2, Lib.hid (by simp), hbV.trans hbl⟩
        · by_cases hk3 : kx = 3
          · subst hk3
            have hpt := Lib.hid (show Tm.ptxt 4 (TT.mk 3 fx ox vx Ax cx xs).tm = (40 :: (T ++ [41])) by
              rw [Tm.ptxt, ← hTx.out, TT.tm_mk]
              rfl)
            have hps2 := Lib.hid (show ps ++ [(40 :: (T ++ [41]))] = (TT.pre ks (j + 1)).map (Tm.ptxt 4) by rw [TT.pre_succ hx.out, List.map_append, ← hps.out, List.map_cons, hpt.out]; rfl)
            have HT9 : Hid (Value.string (⟨#[40]⟩ ++ str T ++ ⟨#[41]⟩) = Value.string (str (40 :: (T ++ [41])))) := Lib.hid (by rw [show (⟨#[40]⟩ : ByteArray) = str [40] from rfl, show (⟨#[41]⟩ : ByteArray) = str [41] from rfl, str_append, str_append]; simp)
            have hkx2 := hx
            clear hx hpt hps
            go_wp2_with (at_builtin; refine wp_push ES _ rfl _ _ rfl rfl rfl HOWN (by rfl) (by omega) (by omega) hBr ?_; intro A9 c9 w9 hown9 hgr hbl hlt)
            rw [HT9.out] at hown9
            replace hown9 := SOwn.snoc hown9 rfl
            go_roundg (ks.length - (j + 1))
            case measure => omega
            case rel => exact ⟨j + 1, A9, c9, ps ++ [(40 :: (T ++ [41]))], by omega, by go_num, by rw [List.length_append]; rfl, hown9, hps2, Lib.hid (by simp), hbV.trans hbl⟩
          · have q2 : (kx == 2) = false := beq_eq_false_iff_ne.2 hk2
            have q3 : (kx == 3) = false := beq_eq_false_iff_ne.2 hk3
            have hpt := Lib.hid (show Tm.ptxt 4 (TT.mk kx fx ox vx Ax cx xs).tm = T by
              rw [Tm.ptxt, ← hTx.out, TT.tm_mk]
              show Tm.parB (decide (kx = 2 ∨ kx = 3)) _ = _; rw [decide_eq_false (by omega)]; rfl)
            have hps2 := Lib.hid (show ps ++ [T] = (TT.pre ks (j + 1)).map (Tm.ptxt 4) by rw [TT.pre_succ hx.out, List.map_append, ← hps.out, List.map_cons, hpt.out]; rfl)
            have hkx2 := hx
            clear hx hpt hps
            go_wp2_with (at_builtin; refine wp_push ES _ rfl _ _ rfl rfl rfl HOWN (by rfl) (by omega) (by omega) hBr ?_; intro A9 c9 w9 hown9 hgr hbl hlt)
            replace hown9 := SOwn.snoc hown9 rfl
            go_roundg (ks.length - (j + 1))
            case measure => omega
            case rel => exact ⟨j + 1, A9, c9, ps ++ [T], by omega, by go_num, by rw [List.length_append]; rfl, hown9, hps2, Lib.hid (by simp), hbV.trans hbl⟩
      · obtain rfl : j = ks.length := by omega
        rw [TT.pre_all] at hps
        clear hc00 hc01 hc02 hc03 hc04
        have hc00 := HX.cell 0 0 rfl rfl
        try simp only [List.getElem_toArray, List.getElem_cons_zero] at hc00
        obtain ⟨P, rfl⟩ : ∃ P, ps = [P] := by
          refine List.length_eq_one_iff.1 ?_
          rw [hps.out, List.length_map, List.length_map]
          exact h1.out
        obtain ⟨gp, rfl, hgp, hcp, hcell⟩ := HOWN.at_ (by simp)
        have hc := hcell 0 P rfl
        rw [Nat.zero_add] at hc
        have hfin := Lib.hid (show TX = [110, 111, 116, 32] ++ P by
          have h2 := hps.out
          obtain ⟨y, rfl⟩ := List.length_eq_one_iff.1 h1.out
          rw [← hTX.out, TT.tm_mk, List.map_cons, List.map_nil, Tm.text_4]
          simp only [List.map_cons, List.map_nil, List.cons.injEq, and_true] at h2
          rw [h2]; rfl)
        have hPl : (str P).size ≤ 1000000 := by
          have h2 := congrArg List.length hfin.out
          rw [List.length_append] at h2
          rw [str_size]; omega
        have z1 : ¬ 9223372036854775807 < 4 + (str P).size := by omega
        clear hps hcell
        go_wp2
        go_ret
        exact ⟨by rw [hfin.out, show (⟨#[110, 111, 116, 32]⟩ : ByteArray) = str [110, 111, 116, 32] from rfl, str_append]; rfl, HX.below⟩
set_option maxHeartbeats 4000000 in
set_option maxRecDepth 100000 in
theorem qtext_any {T : List UInt8} (t : TT) (w : World) (HM : t.Mem w) (hT : Tab w) (hX : Hid ((t.tm.Ok ∧ Tm.text t.tm = T) ∨ (¬ t.tm.Ok ∧ T = []))) : Calls Tryz.prog 32 #[t.val] w fun e w' => e = .returned (.string (str T)) ∧ Below w.heap.size w w' := by
  have HX := BL.one w #[.int .i64 t.k, .int .i64 t.f, .int .i64 t.o, .int .i64 t.v, .slice t.A t.ks.length t.c] 55
  replace HM := TT.Mem.ext (below_alloc w (.cells #[.int .i64 t.k, .int .i64 t.f, .int .i64 t.o, .int .i64 t.v, .slice t.A t.ks.length t.c] 55)) HM
  replace hT := hT.ext HX.below
  show Calls _ _ #[.agg #[.int .i64 t.k, .int .i64 t.f, .int .i64 t.o, .int .i64 t.v, .slice t.A t.ks.length t.c]] w _
  go_enter Tryz.func32, Tryz.ntmps32
  go_upto_region 1 with fail
  generalize w.alloc (.cells #[.int .i64 t.k, .int .i64 t.f, .int .i64 t.o, .int .i64 t.v, .slice t.A t.ks.length t.c] 55) = W0 at *
  have hc00 := HX.cell 0 0 rfl rfl
  have hc01 := HX.cell 0 1 rfl rfl
  have hc02 := HX.cell 0 2 rfl rfl
  have hc03 := HX.cell 0 3 rfl rfl
  have hc04 := HX.cell 0 4 rfl rfl
  try simp only [List.getElem_toArray, List.getElem_cons_zero, List.getElem_cons_succ] at hc00 hc01 hc02 hc03 hc04
  by_cases hv : t.tm.Ok
  · have hx := Lib.hid (show Tm.text t.tm = T by
      rcases hX.out with ⟨_, h⟩ | ⟨h, _⟩
      · exact h
      · exact absurd hv h)
    have hwf := Lib.hid hv.1
    have hsz := hv.2.1
    have hb := yes hv
    clear hv hX
    go_wp2_with fail
    refine (qvalid_any t W0 HM hb).mono ?_
    rintro e w4 ⟨rfl, hb4⟩
    replace HX := HX.ext hb4
    replace hT := hT.ext hb4
    replace HM := TT.Mem.ext hb4 HM
    clear hb4 hb hc00 hc01 hc02 hc03 hc04
    have hc00 := HX.cell 0 0 rfl rfl
    have hc01 := HX.cell 0 1 rfl rfl
    have hc02 := HX.cell 0 2 rfl rfl
    have hc03 := HX.cell 0 3 rfl rfl
    have hc04 := HX.cell 0 4 rfl rfl
    try simp only [List.getElem_toArray, List.getElem_cons_zero, List.getElem_cons_succ] at hc00 hc01 hc02 hc03 hc04
    go_wp2_with fail
    refine (qwrite_any t w4 hwf.out (by omega) HM hT).mono ?_
    rw [hx.out]
    rintro e w5 ⟨rfl, hb5⟩
    replace HX := HX.ext hb5
    go_wp2
    go_ret
    exact ⟨rfl, HX.below⟩
  · obtain rfl : T = [] := by
      rcases hX.out with ⟨h, _⟩ | ⟨_, h⟩
      · exact absurd h hv
      · exact h
    have hb := no hv
    clear hv hX
    go_wp2_with fail
    refine (qvalid_any t W0 HM hb).mono ?_
    rintro e w4 ⟨rfl, hb4⟩
    replace HX := HX.ext hb4
    go_wp2
    go_ret
    exact ⟨rfl, HX.below⟩
end Go.Proofs.YtolkijelldlmeaaGreatDoor
