/- The package natural, fifth part: slices.Clone, divide. -/
import Derived.Test.YtolkijelldlmeaaGreatDoorNat4
import Derived.Lib.SliceRun
import Derived.Deep.RegionLaw
import Derived.StillTailTactics
namespace Go.Proofs.YtolkijelldlmeaaGreatDoor
open Go.RowKit Go.Proofs

theorem clone_any (A : Option Addr) (n c : Nat) (l : List Nat) (w : World) (H : Lim w A c l) (hn : n = l.length) (hl : n ≤ 8589934592) :
    Calls Tryz.prog 304 #[.slice A n c] w fun e w' => ∃ A' c', e = .returned (.slice A' n c') ∧ Lim w' A' c' l ∧ Below w.heap.size w w' ∧ ∀ g, g < w.heap.size → Avoid g A' n := by
  have hn' := Lib.hid hn
  clear hn
  have he := Lib.run_eql_slice_nil (P := Tryz.prog) w 32 208 A n c 0 0 Tryz.underlying32
  cases A with
  | none =>
    have h0 : l = [] := by
      rcases Nat.eq_zero_or_pos l.length with h | h
      · exact List.eq_nil_of_length_eq_zero h
      · obtain ⟨_, e1, _⟩ := H.cell h; cases e1
    subst h0
    have hn := hn'.out
    simp only [List.length_nil] at hn
    subst hn
    clear hn'
    go_enter Tryz.func304, Tryz.ntmps304
    go_wp2
    go_ret
    exact ⟨none, 0, rfl, Lim.nil _ _ _, Below.refl _ _, fun _ _ h => absurd h (by omega)⟩
  | some ad =>
    go_enter Tryz.func304, Tryz.ntmps304
    go_wp2_with (at_builtin; refine wp_append_full EU _ rfl _ _ rfl rfl rfl (Lim.nil _ _ _) (H.ext (below_alloc _ _)) rfl hn'.out (by omega) ?_)
    intro A' c' w' hL hb hav
    go_wp2
    go_ret
    exact ⟨A', c', rfl, hL, (below_alloc _ _).trans (hb.mono (by simp)), fun g hg => hav g (by omega) (fun h => absurd h (by omega))⟩

theorem val_drop_div {l : List Nat} (h : Dig l) (k : Nat) : val (l.drop k) = val l / pw k := by
  by_cases hk : k ≤ l.length
  · have e := val_split l k hk
    have hlt := val_lt (h.take k)
    rw [List.length_take, Nat.min_eq_left hk] at hlt
    rw [e, Nat.add_mul_div_left _ _ (pw_pos k), Nat.div_eq_of_lt hlt, Nat.zero_add]
  · rw [List.drop_of_length_le (by omega), val_nil, Nat.div_eq_of_lt]
    exact Nat.lt_of_lt_of_le (val_lt h) (pw_le (by omega))
theorem val_take_mod {l : List Nat} (h : Dig l) {k : Nat} (hk : k ≤ l.length) : val (l.take k) = val l % pw k := by
  have e := val_split l k hk
  have hlt := val_lt (h.take k)
  rw [List.length_take, Nat.min_eq_left hk] at hlt
  rw [e, Nat.add_mul_mod_self_left, Nat.mod_eq_of_lt hlt]
theorem div_pw_div (a k : Nat) : a / pw (k + 1) = a / pw k / 1000000000 := by rw [pw_succ, Nat.mul_comm, Nat.div_div_eq_div_mul]

structure DivAt (U V N k : Nat) (ul qo : List Nat) : Prop where
  qlen : qo.length = N
  qdg : Dig qo
  udg : Dig ul
  ulen : ul.length ≤ (dig U).length
  lt : val ul / pw k < V
  eq : U = val ul + pw k * val (qo.drop k) * V
  zer : ∀ p, p < k → at_ qo p = 0
theorem DivAt.first {U V N : Nat} (hV : 0 < V) (hN : N + (dig V).length = (dig U).length + 1) : DivAt U V N N (dig U) (List.replicate N 0) := by
  refine ⟨by simp, Dig.replicate _, dig_Dig U, Nat.le_refl _, ?_, ?_, fun p _ => at_replicate _ _⟩
  · rw [val_dig]
    have h1 := dig_lt U
    have h2 := dig_ge hV
    have h3 := dig_len_pos.2 hV
    rw [Nat.div_lt_iff_lt_mul (pw_pos N)]
    refine Nat.lt_of_lt_of_le h1 (Nat.le_trans ?_ (Nat.mul_le_mul_right _ h2))
    rw [← pw_add]
    exact pw_le (by omega)
  · rw [List.drop_of_length_le (by simp), val_nil, val_dig]; omega
theorem DivAt.skip {U V N j : Nat} {ul qo : List Nat} (h : DivAt U V N (j + 1) ul qo) (hj : j < N) (hlt : val ul / pw j < V) : DivAt U V N j ul qo := by
  refine ⟨h.qlen, h.qdg, h.udg, h.ulen, hlt, ?_, fun p hp => h.zer p (by omega)⟩
  rw [val_drop_cons (by rw [h.qlen]; exact hj), h.zer j (by omega), Nat.zero_add]
  have e := h.eq
  rw [pw_succ] at e
  grind
theorem DivAt.pos {U V N k : Nat} {ul qo : List Nat} (h : DivAt U V N k ul qo) : 0 < V := Nat.lt_of_le_of_lt (Nat.zero_le _) h.lt
theorem DivAt.digit {U V N j : Nat} {ul qo : List Nat} (h : DivAt U V N (j + 1) ul qo) : val ul / pw j / V < 1000000000 := by
  have hlt := h.lt
  have h0 := h.pos
  rw [div_pw_div] at hlt
  rw [Nat.div_lt_iff_lt_mul h0]
  have := (Nat.div_lt_iff_lt_mul (show 0 < 1000000000 by omega)).1 hlt
  omega
theorem DivAt.inside {U V N j : Nat} {ul qo : List Nat} (h : DivAt U V N (j + 1) ul qo) (hge : V ≤ val ul / pw j) : j < ul.length := by
  have hlt := h.lt
  rcases Nat.lt_or_ge j ul.length with h' | h'
  · exact h'
  · exfalso
    have := val_lt h.udg
    rw [Nat.div_eq_of_lt (Nat.lt_of_lt_of_le this (pw_le h'))] at hge
    have := h.pos
    omega
theorem DivAt.step {U V N j : Nat} {ul qo : List Nat} (h : DivAt U V N (j + 1) ul qo) (hj : j < N) (hge : V ≤ val ul / pw j) :
    DivAt U V N j (ul.take j ++ dig (val ul / pw j % V)) (qo.set j (val ul / pw j / V)) := by
  have hin := h.inside hge
  have hV : 0 < V := h.pos
  have hm := Nat.mod_lt (val ul / pw j) hV
  have ev : val (ul.take j ++ dig (val ul / pw j % V)) = val ul % pw j + pw j * (val ul / pw j % V) := by
    rw [val_append, val_dig, List.length_take, Nat.min_eq_left (by omega), val_take_mod h.udg (by omega)]
  refine ⟨by rw [List.length_set]; exact h.qlen, h.qdg.set _ h.digit, (h.udg.take j).append (dig_Dig _), ?_, ?_, ?_, fun p hp => by rw [at_set_ne (by omega)]; exact h.zer p (by omega)⟩
  · have h1 : (dig (val ul / pw j % V)).length ≤ (ul.drop j).length := by
      refine Nat.le_trans (dig_mono (Nat.mod_le _ _)) ?_
      rw [← val_drop_div h.udg]
      exact dig_len_val (h.udg.drop j)
    have := h.ulen
    rw [List.length_drop] at h1
    rw [List.length_append, List.length_take]
    omega
  · rw [ev, Nat.add_mul_div_left _ _ (pw_pos j), Nat.div_eq_of_lt (Nat.mod_lt _ (pw_pos j)), Nat.zero_add]
    exact hm
  · have hk : j < (qo.set j (val ul / pw j / V)).length := by rw [List.length_set, h.qlen]; exact hj
    rw [ev, val_drop_cons hk, at_set_same (by rw [h.qlen]; exact hj), List.drop_set_of_lt (by omega)]
    have e := h.eq
    rw [pw_succ] at e
    have e1 := Nat.div_add_mod (val ul) (pw j)
    have e2 := Nat.div_add_mod (val ul / pw j) V
    generalize val ul / pw j / V = q at *
    generalize val ul / pw j % V = r at *
    generalize val ul / pw j = P at *
    generalize val ul % pw j = t at *
    generalize val (qo.drop (j + 1)) = D at *
    grind
/-- the limbs by which the digit is guessed -/
theorem top_digit {P V m : Nat} (hm : m = (dig V).length) (hV : 0 < V) (_ : V ≤ P) : P / V * at_ (dig V) (m - 1) ≤ P / pw (m - 1) := by
  have h1 : at_ (dig V) (m - 1) = V / pw (m - 1) := by
    have h0 := dig_len_pos.2 hV
    rw [dig_at, Nat.mod_eq_of_lt]
    rw [Nat.div_lt_iff_lt_mul (pw_pos _), ← pw_succ, show m - 1 + 1 = m by omega, hm]
    exact dig_lt V
  rw [h1, Nat.le_div_iff_mul_le (pw_pos _), Nat.mul_assoc]
  refine Nat.le_trans (Nat.mul_le_mul_left _ (Nat.div_mul_le_self V _)) (Nat.div_mul_le_self P V)
theorem dig_last (P : Nat) {k : Nat} (hk : (dig P).length = k + 1) : P / pw k = at_ (dig P) k := by
  rw [dig_at, Nat.mod_eq_of_lt]
  rw [Nat.div_lt_iff_lt_mul (pw_pos _), ← pw_succ, ← hk]
  exact dig_lt P
theorem dig_last2 (P : Nat) {k : Nat} (hk : (dig P).length = k + 2) : P / pw k = at_ (dig P) (k + 1) * 1000000000 + at_ (dig P) k := by
  rw [div_pw_succ, dig_last P hk]; omega
theorem len_scaled {b s m : Nat} (hm : m = (dig b).length) (hb : 0 < b) (hs : s = 1000000000 / (at_ (dig b) (m - 1) + 1)) : (dig (b * s)).length = m ∧ 0 < s ∧ s < 1000000000 := by
  have h0 := dig_len_pos.2 hb
  have ht := dig_top hb
  rw [← hm] at ht
  have hd := dig_Dig b (m - 1)
  generalize hx : at_ (dig b) (m - 1) = x at *
  have hs1 : 0 < s := by rw [hs]; exact Nat.div_pos (by omega) (by omega)
  have hs2 : s * (x + 1) ≤ 1000000000 := by rw [hs]; exact Nat.div_mul_le_self _ _
  have hs3 : s < 1000000000 := by
    rcases Nat.lt_or_ge s 1000000000 with h | h
    · exact h
    · have := Nat.mul_le_mul h (show 2 ≤ x + 1 by omega); omega
  refine ⟨?_, hs1, hs3⟩
  have hle : m ≤ (dig (b * s)).length := by rw [hm]; exact dig_mono (Nat.le_mul_of_pos_right b hs1)
  have hge : (dig (b * s)).length ≤ m := by
    refine dig_len_le ?_
    have e : b / pw (m - 1) = x := by rw [← hx]; exact dig_last b (by omega)
    have hb2 : b < (x + 1) * pw (m - 1) := by rw [← Nat.div_lt_iff_lt_mul (pw_pos _), e]; omega
    calc b * s < (x + 1) * pw (m - 1) * s := Nat.mul_lt_mul_of_pos_right hb2 hs1
      _ = s * (x + 1) * pw (m - 1) := by grind
      _ ≤ 1000000000 * pw (m - 1) := Nat.mul_le_mul_right _ hs2
      _ = pw m := by rw [← pw_succ]; congr 1; omega
  omega

theorem trim_val (A : Option Addr) (n c P : Nat) (l : List Nat) (w : World) (H : Lim w A c l) (hd : Dig l) (hv : val l = P) (hn : n = l.length) (hl : n ≤ 1099511627776) :
    Calls Tryz.prog 232 #[.slice A n c] w fun e w' => e = .returned (.slice A (dig P).length c) ∧ w = w' :=
  (trim_any A n c l w H hn hl).mono fun e w' ⟨he, hw⟩ => ⟨by rw [he, trimL_val hd, hv], hw⟩
theorem Lim.of_val {w : World} {A : Option Addr} {c : Nat} {l : List Nat} {P : Nat} (H : Lim w A c l) (hd : Dig l) (hv : val l = P) : Lim w A c (dig P) := by
  rw [← hv, ← trimL_val hd]; exact H.trimL
theorem Lim.take3 {w : World} {A : Option Addr} {c : Nat} {l : List Nat} (H : Lim w A c l) (k : Nat) : Lim w A k (l.take k) :=
  ⟨by simp; omega, H.take.small, H.take.cell⟩
theorem drew_ext (w : World) : Below w.heap.size w w.drew := (Below.refl _ _).drew
end Go.Proofs.YtolkijelldlmeaaGreatDoor
