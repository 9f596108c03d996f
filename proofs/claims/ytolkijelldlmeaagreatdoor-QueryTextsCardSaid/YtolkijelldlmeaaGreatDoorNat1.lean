/- The package natural, first part: trim, limbs, made, compare. -/
import Derived.Test.YtolkijelldlmeaaGreatDoorProg
import Derived.Test.YtolkijelldlmeaaGreatDoorBase
namespace Go.Proofs.YtolkijelldlmeaaGreatDoor
open Go.RowKit Go.Proofs

theorem EU : Elt Tryz.prog 32 208 (.int .u32 0) 4 := ⟨Tryz.underlying32, by kernel_rfl, rfl⟩

def lenOf : Value → Nat | .slice _ n _ => n | _ => 0

theorem trim_any (A : Option Addr) (n c : Nat) (l : List Nat) (w : World) (H : Lim w A c l) (hn : n = l.length) (hl : n ≤ 1099511627776) :
    Calls Tryz.prog 232 #[.slice A n c] w fun e w' => e = .returned (.slice A (trimL l).length c) ∧ w = w' := by
  subst hn
  have hcap := H.cap
  go_enter Tryz.func232, Tryz.ntmps232
  go_wp2
  go_loop [0] (fun v => ∃ k, k ≤ l.length ∧ v = .slice A k c ∧ ∀ j, k ≤ j → at_ l j = 0) (fun v => lenOf v)
  case atStart => exact ⟨l.length, Nat.le_refl _, rfl, fun j hj => at_ge hj⟩
  case round =>
    obtain ⟨k, hk, rfl, hz⟩ := hrel
    have HZ := Lib.hid hz
    clear hz
    by_cases hk0 : 0 < k
    · obtain ⟨ad, rfl, hbl, hc⟩ := H.cellAt (j := k - 1) (by omega)
      by_cases hx : at_ l (k - 1) = 0
      · have hx' : ((at_ l (k - 1) : Nat) : Int) = 0 := by omega
        have HX := Lib.hid hx
        clear hx
        go_wp2
        go_round
        case rel => exact ⟨k - 1, by omega, by go_num, fun j hj => if e : j = k - 1 then e ▸ HX.out else HZ.out j (by omega)⟩
        case measure => simp [lenOf]; omega
      · have hx' : (((at_ l (k - 1) : Nat) : Int) == 0) = false := by simp; omega
        go_wp2
        go_ret
        exact ⟨ret_slice (trimL_length hk HZ.out (.inr hx)).symm, rfl⟩
    · go_wp2
      go_ret
      exact ⟨ret_slice (trimL_length hk HZ.out (.inl (by omega))).symm, rfl⟩

/-- limbs, after k rounds -/
structure LimbsAt (l : List Nat) (k : Nat) (o : List Nat) (carry : Nat) : Prop where
  len : o.length = k
  dig : Dig o
  car : carry ≤ 4
  eq : val o + pw k * carry = val (l.take k)
theorem LimbsAt.next {l : List Nat} {k : Nat} {o : List Nat} {carry : Nat} (h : LimbsAt l k o carry) (hk : k < l.length) (hs : at_ l k < 4294967296) :
    LimbsAt l (k + 1) (o ++ [(carry + at_ l k) % 1000000000]) ((carry + at_ l k) / 1000000000) := by
  have := h.car
  refine ⟨by rw [List.length_append, h.len]; rfl, h.dig.snoc (by omega), by omega, ?_⟩
  rw [val_snoc, val_take_succ hk, ← h.eq, h.len, pw_succ]
  have e : carry + at_ l k = 1000000000 * ((carry + at_ l k) / 1000000000) + (carry + at_ l k) % 1000000000 := by omega
  generalize (carry + at_ l k) / 1000000000 = q at *
  generalize (carry + at_ l k) % 1000000000 = r at *
  grind
theorem LimbsAt.done {l : List Nat} {o : List Nat} {carry : Nat} (h : LimbsAt l l.length o carry) : val (o ++ [carry]) = val l ∧ Dig (o ++ [carry]) := by
  have := h.car
  refine ⟨?_, h.dig.snoc (by omega)⟩
  rw [val_snoc, h.len, h.eq, List.take_of_length_le (Nat.le_refl _)]

theorem small_of_dig {l : List Nat} (h : Dig l) (j : Nat) : at_ l j < 4294967296 := by have := h j; omega

set_option maxRecDepth 100000 in
theorem limbs_any (A : Option Addr) (n c : Nat) (l : List Nat) (w : World) (H : Lim w A c l) (hn : n = l.length) (hl : n ≤ 4294967296) :
    Calls Tryz.prog 148 #[.agg #[.slice A n c]] w (RetS w (val l)) := by
  subst hn
  have hcap := H.cap
  go_enter Tryz.func148, Tryz.ntmps148
  go_wp2_with (at_make; refine wp_make0 EU _ rfl _ _ rfl _ (l.length + 1) rfl rfl (by omega) (by omega) (by omega) ?_)
  intro w1 hown hb hlt
  have hx : w1.cell? ⟨w.heap.size, 0, none⟩ = some (.slice A l.length c) := box_at hb (by omega) 0
  go_wp2
  go_loopw [3, 4, 15] (fun s cy i wr => ∃ (k : Nat) (o : List Nat) (carry : Nat) (A' : Option Addr) (c' : Nat), k ≤ l.length ∧ LimbsAt l k o carry ∧ s = .slice A' k c' ∧ cy = .int .u64 carry ∧ i = .int .i64 k ∧ Own wr (w.heap.size + 1) 208 A' k c' (ints .u32 o) ∧ Below (w.heap.size + 1) (w.alloc (.cells #[.slice A l.length c] 34)) wr)
    (fun _ _ i _ => l.length - (intOf i).toNat)
  case atStart => exact ⟨0, [], 0, _, _, by omega, ⟨rfl, Dig.nil, by omega, rfl⟩, rfl, rfl, rfl, hown, hb⟩
  case round =>
    obtain ⟨k, o, carry, A', c', hk, hL, rfl, rfl, rfl, hown, hb⟩ := hrel
    have hcar := hL.car
    have hsz := hb.size
    simp at hsz
    by_cases hlt : k < l.length
    · have hs := H.small k
      obtain ⟨ad, rfl, hbl, hc⟩ := (H.ext (below_box hb (by omega))).cellAt hlt
      go_wp2_with (at_builtin; refine wp_push EU _ rfl _ _ rfl rfl rfl hown (by rfl) (by omega) (by omega) (by omega) ?_)
      intro A2 c2 w2 hown2 hgr2 hb2 hlt2
      go_wp2
      go_roundw
      case rel => exact ⟨k + 1, _, _, _, _, by omega, hL.next hlt hs, rfl, by go_num, by go_num, by rw [ints_snoc]; exact hown2, hb.trans hb2⟩
      case measure => simp [intOf]; omega
    · obtain rfl : k = l.length := by omega
      go_wp2_with (at_builtin; refine wp_push EU _ rfl _ _ rfl rfl rfl hown (by rfl) (by omega) (by omega) (by omega) ?_)
      intro A2 c2 w2 hown2 hgr2 hb2 hlt2
      obtain ⟨hv, hd⟩ := hL.done
      have hlen : l.length + 1 = (o ++ [carry]).length := by rw [List.length_append, hL.len]; rfl
      have hown3 : Own w2 (w.heap.size + 1) 208 A2 (o ++ [carry]).length c2 (ints .u32 (o ++ [carry])) := by rw [ints_snoc, ← hlen]; exact hown2
      have HL := Own.lim hown3 (small_of_dig hd)
      have HV := Lib.hid hv
      have HN := Lib.hid hlen
      clear hv hlen hown2 hown3
      go_wp2_with fail
      refine (trim_any A2 _ c2 (o ++ [carry]) w2 HL HN.out (by omega)).mono ?_
      rintro e w' ⟨rfl, rfl⟩
      go_wp2
      go_ret
      refine ⟨A2, c2, ret_slice (by rw [trimL_val hd, HV.out]), ?_, below_box (hb.trans hb2) (by omega)⟩
      · rw [← HV.out, ← trimL_val hd]; exact HL.trimL

set_option maxRecDepth 100000 in
theorem made_any (A : Option Addr) (n c : Nat) (l : List Nat) (w : World) (H : Lim w A c l) (hd : Dig l) (hn : n = l.length) (hl : n ≤ 1099511627776) :
    Calls Tryz.prog 151 #[.slice A n c] w (RetN w (val l)) := by
  subst hn
  have hlen := trimL_len l
  by_cases h0 : (trimL l).length = 0
  · go_enter Tryz.func151, Tryz.ntmps151
    go_wp2_with fail
    refine (trim_any A _ c l _ (H.ext (below_alloc _ _)) rfl hl).mono ?_
    rintro e w' ⟨rfl, rfl⟩
    go_wp2
    refine bodyPost_ret (v := .agg #[.slice none 0 0]) (by simp [results, Tryz.results151, go_sem]) rfl ?_
    have hv : dig (val l) = [] := by rw [← trimL_val hd]; exact List.eq_nil_of_length_eq_zero h0
    exact ⟨none, 0, by rw [hv]; rfl, by rw [hv]; exact Lim.nil _ _ _, (below_alloc _ _)⟩
  · have h1 : (((trimL l).length : Int) == 0) = false := beq_eq_false_iff_ne.2 (by omega)
    go_enter Tryz.func151, Tryz.ntmps151
    go_wp2_with fail
    refine (trim_any A _ c l _ (H.ext (below_alloc _ _)) rfl hl).mono ?_
    rintro e w' ⟨rfl, rfl⟩
    go_wp2
    refine bodyPost_ret (v := .agg #[.slice A (trimL l).length c]) (by simp [results, Tryz.results151, go_sem]) rfl ?_
    refine ⟨A, c, by rw [trimL_val hd], ?_, (below_alloc _ _)⟩
    rw [← trimL_val hd]
    exact H.trimL.ext (below_alloc _ _)
end Go.Proofs.YtolkijelldlmeaaGreatDoor
