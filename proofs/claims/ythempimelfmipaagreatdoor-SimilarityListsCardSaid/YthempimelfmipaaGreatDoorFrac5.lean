/- The package fraction, fifth part: Sub, Div, Floor. -/
import Derived.Test.YthempimelfmipaaGreatDoorFrac4
namespace Go.Proofs.YthempimelfmipaaGreatDoor
open Go.RowKit Go.Proofs

def RetQE (w : World) (q : Rat) (e : Ending) (w' : World) : Prop :=
  ∃ A c B d, e = .returned (.tuple #[.agg #[.bool (sg q), .slice A (dig (nu q)).length c, .slice B (dig q.den).length d], .int .i64 0]) ∧ Lim w' A c (dig (nu q)) ∧ Lim w' B d (dig q.den) ∧ Below w.heap.size w w'
def RetZE (w : World) (err : Int) (e : Ending) (w' : World) : Prop :=
  e = .returned (.tuple #[.agg #[.bool false, .slice none 0 0, .slice none 0 0], .int .i64 err]) ∧ Below w.heap.size w w'

set_option maxHeartbeats 800000 in
set_option maxRecDepth 100000 in
theorem fsub_any {s t : Bool} {A B A' B' : Option Addr} {n c m d n' c' m' d' : Nat} {p q : Rat} {k k' : Nat} (w : World) (h : Fr w s A n c B m d p k) (h' : Fr w t A' n' c' B' m' d' q k') (hk : k ≤ 134217726) (hk' : k' ≤ 134217726) :
    Calls Tryz.prog 70 #[.agg #[.bool s, .slice A n c, .slice B m d], .agg #[.bool t, .slice A' n' c', .slice B' m' d']] w (RetQ w (p - q)) := by
  have hsz : Sz (-q) (k' + 1) := h'.sz.neg
  have hpq : p - q = p + -q := Rat.sub_eq_add_neg p q
  rw [hpq]
  clear hpq
  go_enter Tryz.func70, Tryz.ntmps70
  go_wp2_with fail
  obtain ⟨W, hW⟩ : ∃ W, W = ((w.alloc (.cells #[.bool s, .slice A n c, .slice B m d] 33)).alloc (.cells #[.bool t, .slice A' n' c', .slice B' m' d'] 33)).alloc (.cells #[.bool false, .slice none 0 0, .slice none 0 0] 33) := ⟨_, rfl⟩
  have HX := Bx.three w #[.bool s, .slice A n c, .slice B m d] #[.bool t, .slice A' n' c', .slice B' m' d'] #[.bool false, .slice none 0 0, .slice none 0 0] 33 33 33
  rw [← hW] at HX
  rw [← hW]
  clear hW
  have HX1 := HX.ext (drew_ext W)
  have held : ∀ {W' : World}, Bx w W' [(#[.bool s, .slice A n c, .slice B m d], 33), (#[.bool t, .slice A' n' c', .slice B' m' d'], 33), (#[.bool false, .slice none 0 0, .slice none 0 0], 33)] → W'.cell? ⟨w.heap.size, 0, none⟩ = some (.bool s) ∧ W'.cell? ⟨w.heap.size, 1, none⟩ = some (.slice A n c) ∧ W'.cell? ⟨w.heap.size, 2, none⟩ = some (.slice B m d) ∧ W'.cell? ⟨w.heap.size + 1, 0, none⟩ = some (.bool t) ∧ W'.cell? ⟨w.heap.size + 1, 1, none⟩ = some (.slice A' n' c') ∧ W'.cell? ⟨w.heap.size + 1, 2, none⟩ = some (.slice B' m' d') :=
    fun h => ⟨h.cell 0 0 rfl rfl, h.cell 0 1 rfl rfl, h.cell 0 2 rfl rfl, h.cell 1 0 rfl rfl, h.cell 1 1 rfl rfl, h.cell 1 2 rfl rfl⟩
  go_region_held3 (fun W' => W'.cell? ⟨w.heap.size, 0, none⟩ = some (.bool s) ∧ W'.cell? ⟨w.heap.size, 1, none⟩ = some (.slice A n c) ∧ W'.cell? ⟨w.heap.size, 2, none⟩ = some (.slice B m d) ∧ W'.cell? ⟨w.heap.size + 1, 0, none⟩ = some (.bool t) ∧ W'.cell? ⟨w.heap.size + 1, 1, none⟩ = some (.slice A' n' c') ∧ W'.cell? ⟨w.heap.size + 1, 2, none⟩ = some (.slice B' m' d'))
    (first | exact held HX | exact held HX1 | exact held HX2 | exact held HX3 | (rw [cell_set3 _ _ _ (by simp; omega), cell_set3 _ _ _ (by simp; omega), cell_set3 _ _ _ (by simp; omega), cell_set3 _ _ _ (by simp), cell_set3 _ _ _ (by simp), cell_set3 _ _ _ (by simp)]; exact held HX3))
    (first
      | (go_at_call 79; refine (fneg_any _ (h'.ext HX1.below) (by omega)).mono ?_; rintro e w1 ⟨A1, c1, B1, d1, rfl, H1, H2, hb1⟩; have HX2 := HX1.ext hb1)
      | (go_at_call 37; refine (fadd_any _ (h.ext HX2.below) (Fr.of H1 H2 hsz) (by omega) (by omega)).mono ?_; rintro e w2 ⟨A9, c9, B9, d9, rfl, H9, H10, hb2⟩; have HX3 := HX2.ext hb2; have hc20 := HX3.cell 2 0 rfl rfl; have hf20 := HX3.free 2 0 rfl; have hc21 := HX3.cell 2 1 rfl rfl; have hf21 := HX3.free 2 1 rfl; have hc22 := HX3.cell 2 2 rfl rfl; have hf22 := HX3.free 2 2 rfl))
  go_wp2
  obtain ⟨hq0, hq1, hq2, hq, hkeep, hbel⟩ := set3 (w := w) (HX3.blk 2 rfl) rfl rfl rfl HX3.below (by omega) (.bool (sg (p + -q))) (.slice A9 (dig (nu (p + -q))).length c9) (.slice B9 (dig (p + -q).den).length d9)
  exact bodyPost_ret (v := .agg #[.bool (sg (p + -q)), .slice A9 (dig (nu (p + -q))).length c9, .slice B9 (dig (p + -q).den).length d9]) (by simp [results, Tryz.results70, go_sem, hq0, hq1, hq2]) rfl ⟨A9, c9, B9, d9, rfl, H9.stay hkeep, H10.stay hkeep, hbel⟩

theorem Fr.inv {w : World} {s : Bool} {A B : Option Addr} {n c m d : Nat} {q : Rat} {k : Nat} (h : Fr w s A n c B m d q k) : Fr w s B m d A n c q⁻¹ k := by
  obtain ⟨⟨l, r, h1, h2, h3, h4, h5⟩, h6, h7⟩ := h
  exact ⟨⟨r, l, h2, h1, h4, h3, by rw [h5, rv_inv]⟩, h7, h6⟩

end Go.Proofs.YthempimelfmipaaGreatDoor
