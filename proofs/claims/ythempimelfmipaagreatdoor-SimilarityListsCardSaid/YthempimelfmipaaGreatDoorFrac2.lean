/- The package fraction, second part: Norm, Neg, Sign, Mul, Of. -/
import Derived.Test.YthempimelfmipaaGreatDoorFrac1
import Derived.Test.YthempimelfmipaaGreatDoorQMath
namespace Go.Proofs.YthempimelfmipaaGreatDoor
open Go.RowKit Go.Proofs

/-- an argument: the number q, its terms in at most k limbs -/
structure Fr (w : World) (s : Bool) (A : Option Addr) (n c : Nat) (B : Option Addr) (m d : Nat) (q : Rat) (k : Nat) : Prop where
  ex : ∃ l r, Lim w A c l ∧ Lim w B d r ∧ n = l.length ∧ m = r.length ∧ q = rv s (val l) (val r)
  hn : n ≤ k
  hm : m ≤ k
section
variable {w w' : World} {s : Bool} {A B : Option Addr} {n c m d : Nat} {p q : Rat} {k : Nat}
theorem Fr.ext (h : Fr w s A n c B m d q k) (hb : Below w.heap.size w w') : Fr w' s A n c B m d q k := by
  obtain ⟨⟨l, r, h1, h2, h3⟩, h4, h5⟩ := h
  exact ⟨⟨l, r, h1.ext hb, h2.ext hb, h3⟩, h4, h5⟩
theorem Fr.stay (h : Fr w s A n c B m d q k) (hb : Keep w w') : Fr w' s A n c B m d q k := by
  obtain ⟨⟨l, r, h1, h2, h3⟩, h4, h5⟩ := h
  exact ⟨⟨l, r, h1.stay hb, h2.stay hb, h3⟩, h4, h5⟩
theorem Fr.mono (h : Fr w s A n c B m d q k) {k' : Nat} (hk : k ≤ k') : Fr w s A n c B m d q k' := ⟨h.ex, Nat.le_trans h.hn hk, Nat.le_trans h.hm hk⟩
theorem Fr.neg (h : Fr w s A n c B m d q k) : Fr w (!s) A n c B m d (-q) k := by
  obtain ⟨⟨l, r, h1, h2, h3, h4, h5⟩, h6, h7⟩ := h
  exact ⟨⟨l, r, h1, h2, h3, h4, by rw [h5, neg_rv]⟩, h6, h7⟩
theorem Fr.of (HA : Lim w A c (dig (nu q))) (HB : Lim w B d (dig q.den)) (hs : Sz q k) : Fr w (sg q) A (dig (nu q)).length c B (dig q.den).length d q k :=
  ⟨⟨_, _, HA, HB, rfl, rfl, by rw [val_dig, val_dig, rv_self]⟩, hs.1, hs.2⟩
theorem Fr.of2 {x y : Nat} (HA : Lim w A c (dig x)) (HB : Lim w B d (dig y)) (h1 : (dig x).length ≤ k) (h2 : (dig y).length ≤ k) : Fr w s A (dig x).length c B (dig y).length d (rv s x y) k :=
  ⟨⟨_, _, HA, HB, rfl, rfl, by rw [val_dig, val_dig]⟩, h1, h2⟩
theorem Fr.sz (h : Fr w s A n c B m d q k) : Sz q (k + 1) := by
  obtain ⟨⟨l, r, h1, h2, h3, h4, h5⟩, h6, h7⟩ := h
  rw [h5]
  exact Sz.of_rv (Nat.le_trans (dig_len_of h1.small h3) (by omega)) (Nat.le_trans (dig_len_of h2.small h4) (by omega)) (by omega)
theorem RetQ.lift {W : World} {e : Ending} (hb : Below w.heap.size w W) (h : RetQ W q e w') : RetQ w q e w' := by
  obtain ⟨A, c, B, d, h1, h2, h3, h4⟩ := h
  exact ⟨A, c, B, d, h1, h2, h3, hb.trans (h4.mono hb.size)⟩
theorem RetQ.fr {e : Ending} (h : RetQ w q e w') (hs : Sz q k) : ∃ A c B d, e = .returned (.agg #[.bool (sg q), .slice A (dig (nu q)).length c, .slice B (dig q.den).length d]) ∧ Fr w' (sg q) A (dig (nu q)).length c B (dig q.den).length d q k ∧ Below w.heap.size w w' := by
  obtain ⟨A, c, B, d, h1, h2, h3, h4⟩ := h
  exact ⟨A, c, B, d, h1, Fr.of h2 h3 hs, h4⟩
end
theorem made_fr {w : World} {s : Bool} {A B : Option Addr} {n c m d : Nat} {q : Rat} {k : Nat} (h : Fr w s A n c B m d q k) (hk : k ≤ 536870912) :
    Calls Tryz.prog 51 #[.bool s, .agg #[.slice A n c], .agg #[.slice B m d]] w (RetQ w q) := by
  obtain ⟨⟨l, r, h1, h2, h3, h4, rfl⟩, h6, h7⟩ := h
  exact fmade_any s A B n m c d l r w h1 h2 h3 h4 (by omega) (by omega)

set_option maxHeartbeats 400000 in
set_option maxRecDepth 100000 in
theorem fnorm_any {s : Bool} {A B : Option Addr} {n c m d : Nat} {q : Rat} {k : Nat} (w : World) (h : Fr w s A n c B m d q k) (hk : k ≤ 536870912) :
    Calls Tryz.prog 74 #[.agg #[.bool s, .slice A n c, .slice B m d]] w (RetQ w q) := by
  go_enter Tryz.func74, Tryz.ntmps74
  go_wp2_with fail
  have HX := Bx.two w #[.bool s, .slice A n c, .slice B m d] #[.bool false, .slice none 0 0, .slice none 0 0] 33 33
  refine (made_fr (h.ext HX.below) hk).mono ?_
  rintro e w1 ⟨A1, c1, B1, d1, rfl, H1, H2, hb⟩
  have HX := HX.ext hb
  have hc10 := HX.cell 1 0 rfl rfl
  have hf10 := HX.free 1 0 rfl
  have hc11 := HX.cell 1 1 rfl rfl
  have hf11 := HX.free 1 1 rfl
  have hc12 := HX.cell 1 2 rfl rfl
  have hf12 := HX.free 1 2 rfl
  go_wp2
  obtain ⟨hq0, hq1, hq2, hq, hkeep, hbel⟩ := set3 (w := w) (HX.blk 1 rfl) rfl rfl rfl HX.below (by omega) (.bool (sg q)) (.slice A1 (dig (nu q)).length c1) (.slice B1 (dig q.den).length d1)
  exact bodyPost_ret (v := .agg #[.bool (sg q), .slice A1 (dig (nu q)).length c1, .slice B1 (dig q.den).length d1]) (by simp [results, Tryz.results74, go_sem, hq0, hq1, hq2]) rfl ⟨A1, c1, B1, d1, rfl, H1.stay hkeep, H2.stay hkeep, hbel⟩

set_option maxHeartbeats 400000 in
set_option maxRecDepth 100000 in
theorem fneg_any {s : Bool} {A B : Option Addr} {n c m d : Nat} {q : Rat} {k : Nat} (w : World) (h : Fr w s A n c B m d q k) (hk : k ≤ 536870912) :
    Calls Tryz.prog 79 #[.agg #[.bool s, .slice A n c, .slice B m d]] w (RetQ w (-q)) := by
  go_enter Tryz.func79, Tryz.ntmps79
  go_wp2_with fail
  have HX := Bx.two w #[.bool s, .slice A n c, .slice B m d] #[.bool false, .slice none 0 0, .slice none 0 0] 33 33
  refine (made_fr (h.ext HX.below).neg hk).mono ?_
  rintro e w1 ⟨A1, c1, B1, d1, rfl, H1, H2, hb⟩
  generalize -q = q at *
  have HX := HX.ext hb
  have hc10 := HX.cell 1 0 rfl rfl
  have hf10 := HX.free 1 0 rfl
  have hc11 := HX.cell 1 1 rfl rfl
  have hf11 := HX.free 1 1 rfl
  have hc12 := HX.cell 1 2 rfl rfl
  have hf12 := HX.free 1 2 rfl
  go_wp2
  obtain ⟨hq0, hq1, hq2, hq, hkeep, hbel⟩ := set3 (w := w) (HX.blk 1 rfl) rfl rfl rfl HX.below (by omega) (.bool (sg q)) (.slice A1 (dig (nu q)).length c1) (.slice B1 (dig q.den).length d1)
  exact bodyPost_ret (v := .agg #[.bool (sg q), .slice A1 (dig (nu q)).length c1, .slice B1 (dig q.den).length d1]) (by simp [results, Tryz.results79, go_sem, hq0, hq1, hq2]) rfl ⟨A1, c1, B1, d1, rfl, H1.stay hkeep, H2.stay hkeep, hbel⟩

theorem cell_set3 (W : World) (g : Nat) (p : Addr) (h : g ≠ p.block) (v0 v1 v2 : Value) : (((W.setCell ⟨g, 0, none⟩ v0).setCell ⟨g, 1, none⟩ v1).setCell ⟨g, 2, none⟩ v2).cell? p = W.cell? p := by
  rw [World.cell?_setCell_other _ _ _ _ (fun e => h (congrArg Addr.block e)), World.cell?_setCell_other _ _ _ _ (fun e => h (congrArg Addr.block e)), World.cell?_setCell_other _ _ _ _ (fun e => h (congrArg Addr.block e))]

set_option maxHeartbeats 800000 in
set_option maxRecDepth 100000 in
theorem fmul_any {s t : Bool} {A B A' B' : Option Addr} {n c m d n' c' m' d' : Nat} {p q : Rat} {k k' : Nat} (w : World) (h : Fr w s A n c B m d p k) (h' : Fr w t A' n' c' B' m' d' q k') (hk : k ≤ 268435455) (hk' : k' ≤ 268435455) :
    Calls Tryz.prog 69 #[.agg #[.bool s, .slice A n c, .slice B m d], .agg #[.bool t, .slice A' n' c', .slice B' m' d']] w (RetQ w (p * q)) := by
  obtain ⟨⟨l, r, HA, HB, hn, hm, hp⟩, hnk, hmk⟩ := h
  obtain ⟨⟨l', r', HA', HB', hn', hm', hq⟩, hnk', hmk'⟩ := h'
  have e1 := len_mul (dig_len_of HA.small hn) (dig_len_of HA'.small hn')
  have e2 := len_mul (dig_len_of HB.small hm) (dig_len_of HB'.small hm')
  have hpq : p * q = rv (!(s == t)) (val l * val l') (val r * val r') := by rw [hp, hq, rv_mul]; rfl
  rw [hpq]
  have HN := Lib.hid hn
  have HM := Lib.hid hm
  have HN' := Lib.hid hn'
  have HM' := Lib.hid hm'
  clear hn hm hn' hm' hpq hp hq
  go_enter Tryz.func69, Tryz.ntmps69
  go_wp2_with fail
  obtain ⟨W, hW⟩ : ∃ W, W = ((w.alloc (.cells #[.bool s, .slice A n c, .slice B m d] 33)).alloc (.cells #[.bool t, .slice A' n' c', .slice B' m' d'] 33)).alloc (.cells #[.bool false, .slice none 0 0, .slice none 0 0] 33) := ⟨_, rfl⟩
  have HX := Bx.three w #[.bool s, .slice A n c, .slice B m d] #[.bool t, .slice A' n' c', .slice B' m' d'] #[.bool false, .slice none 0 0, .slice none 0 0] 33 33 33
  rw [← hW] at HX
  rw [← hW]
  clear hW
  have HX1 := HX.ext (drew_ext W)
  have held : ∀ {W' : World}, Bx w W' [(#[.bool s, .slice A n c, .slice B m d], 33), (#[.bool t, .slice A' n' c', .slice B' m' d'], 33), (#[.bool false, .slice none 0 0, .slice none 0 0], 33)] → W'.cell? ⟨w.heap.size, 0, none⟩ = some (.bool s) ∧ W'.cell? ⟨w.heap.size, 1, none⟩ = some (.slice A n c) ∧ W'.cell? ⟨w.heap.size, 2, none⟩ = some (.slice B m d) ∧ W'.cell? ⟨w.heap.size + 1, 0, none⟩ = some (.bool t) ∧ W'.cell? ⟨w.heap.size + 1, 1, none⟩ = some (.slice A' n' c') ∧ W'.cell? ⟨w.heap.size + 1, 2, none⟩ = some (.slice B' m' d') :=
    fun h => ⟨h.cell 0 0 rfl rfl, h.cell 0 1 rfl rfl, h.cell 0 2 rfl rfl, h.cell 1 0 rfl rfl, h.cell 1 1 rfl rfl, h.cell 1 2 rfl rfl⟩
  go_region_held3 (fun W' => W'.cell? ⟨w.heap.size, 0, none⟩ = some (.bool s) ∧ W'.cell? ⟨w.heap.size, 1, none⟩ = some (.slice A n c) ∧ W'.cell? ⟨w.heap.size, 2, none⟩ = some (.slice B m d) ∧ W'.cell? ⟨w.heap.size + 1, 0, none⟩ = some (.bool t) ∧ W'.cell? ⟨w.heap.size + 1, 1, none⟩ = some (.slice A' n' c') ∧ W'.cell? ⟨w.heap.size + 1, 2, none⟩ = some (.slice B' m' d'))
    (first | exact held HX | exact held HX1 | exact held HX2 | exact held HX3 | exact held HX4 | (rw [cell_set3 _ _ _ (by simp; omega), cell_set3 _ _ _ (by simp; omega), cell_set3 _ _ _ (by simp; omega), cell_set3 _ _ _ (by simp), cell_set3 _ _ _ (by simp), cell_set3 _ _ _ (by simp)]; exact held HX4))
    (first
      | (go_at_call_of 49 (Value.agg #[.slice A n c]); refine (nmul_any A A' n n' c c' l l' _ (HA.ext HX1.below) (HA'.ext HX1.below) HN.out HN'.out (by omega) (by omega)).mono ?_; rintro e w1 ⟨A1, c1, rfl, H1, hb1⟩; have HX2 := HX1.ext hb1)
      | (go_at_call_of 49 (Value.agg #[.slice B m d]); refine (nmul_any B B' m m' d d' r r' _ (HB.ext HX2.below) (HB'.ext HX2.below) HM.out HM'.out (by omega) (by omega)).mono ?_; rintro e w2 ⟨A2, c2, rfl, H2, hb2⟩; have HX3 := HX2.ext hb2; have H1 := H1.ext hb2)
      | (go_at_call 51; refine (made_fr (Fr.of2 (k := 536870912) H1 H2 (by omega) (by omega)) (Nat.le_refl _)).mono ?_; rintro e w3 ⟨A3, c3, B3, d3, rfl, H3, H4, hb3⟩; have HX4 := HX3.ext hb3; have hc20 := HX4.cell 2 0 rfl rfl; have hf20 := HX4.free 2 0 rfl; have hc21 := HX4.cell 2 1 rfl rfl; have hf21 := HX4.free 2 1 rfl; have hc22 := HX4.cell 2 2 rfl rfl; have hf22 := HX4.free 2 2 rfl))
  go_wp2
  obtain ⟨hq0, hq1, hq2, hq, hkeep, hbel⟩ := set3 (w := w) (HX4.blk 2 rfl) rfl rfl rfl HX4.below (by omega) (.bool (sg (rv (!(s == t)) (val l * val l') (val r * val r')))) (.slice A3 (dig (nu (rv (!(s == t)) (val l * val l') (val r * val r')))).length c3) (.slice B3 (dig (rv (!(s == t)) (val l * val l') (val r * val r')).den).length d3)
  exact bodyPost_ret (v := .agg #[.bool (sg (rv (!(s == t)) (val l * val l') (val r * val r'))), .slice A3 (dig (nu (rv (!(s == t)) (val l * val l') (val r * val r')))).length c3, .slice B3 (dig (rv (!(s == t)) (val l * val l') (val r * val r')).den).length d3]) (by simp [results, Tryz.results69, go_sem, hq0, hq1, hq2]) rfl ⟨A3, c3, B3, d3, rfl, H3.stay hkeep, H4.stay hkeep, hbel⟩
end Go.Proofs.YthempimelfmipaaGreatDoor
