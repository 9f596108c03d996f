/- label.Expand: the list whose text a string is, or the error. -/
import Derived.Test.YtlnajhochpbgpaaDoorLb6
namespace Go.Proofs.YtlnajhochpbgpaaDoor
open Go.RowKit Go.Proofs Go

theorem atoi_any {L : List UInt8} (w : World) (hE : Env w) (hL : L.length ≤ 1000000000) :
    Calls Tryd.prog 34 #[.string (str L)] w fun e w' => ∃ (v : Int) (ev : Value), e = .returned (.tuple #[.int .i64 v, ev]) ∧ Below w.heap.size w w' := by
  by_cases h : ∃ n, Lib.atoiAll L = .ok n
  · obtain ⟨n, hn⟩ := h
    refine (atoi_ok w (Lib.hid hn) hL).mono ?_
    rintro e w' ⟨rfl, hb⟩
    exact ⟨_, _, rfl, hb⟩
  · refine (atoi_bad w (Lib.hid fun n hn => h ⟨n, hn⟩) hE hL).mono ?_
    rintro e w' ⟨v, N, rfl, hb⟩
    exact ⟨_, _, rfl, hb⟩
set_option maxRecDepth 100000 in
theorem clip_any (A : Option Addr) (n c : Nat) (w : World) (hn : n ≤ c) (hc : n ≤ 9223372036854775807) :
    Calls Tryd.prog 43 #[.slice A n c] w fun e w' => e = .returned (.slice A n n) ∧ w' = w := by
  go_enter Tryd.func43, Tryd.ntmps43
  go_wp2
  go_ret
  exact ⟨rfl, rfl⟩
/-- what Expand returns -/
def RetX (w : World) (l : List Int) (E : Int) (e : Ending) (w' : World) : Prop := ∃ A c, e = .returned (.tuple #[.slice A l.length c, .int .i64 E]) ∧ IEs w' A l ∧ Below w.heap.size w w'
theorem PX.failP {L : List UInt8} {l : List Int} {E : Int} (h : PX L l E) (h0 : L ≠ []) (hC : expP (Lib.split L [44, 32]) [] = none) : l = [] ∧ E = 3 := by
  refine h.not fun m hm e => ?_
  have hm0 : m ≠ [] := fun e2 => h0 (by rw [← e, e2]; rfl)
  have := expP_text hm hm0
  rw [e, hC] at this
  cases this
theorem PX.readP {L T : List UInt8} {l m : List Int} {E F : Int} (h : PX L l E) (h0 : L ≠ []) (hC : expP (Lib.split L [44, 32]) [] = some m) (hm : PR m T F) : (F = 0 ∧ T = L ∧ l = m ∧ E = 0) ∨ (¬ (F = 0 ∧ T = L) ∧ l = [] ∧ E = 3) := by
  have hr := h.read hm fun k hk e => by
    have hm0 : k ≠ [] := fun e2 => h0 (by rw [← e, e2]; rfl)
    have := expP_text hk hm0
    rw [e, hC] at this
    exact Option.some.inj this
  by_cases hc : F = 0 ∧ T = L
  · exact .inl ⟨hc.1, hc.2, hr.1 hc⟩
  · exact .inr ⟨hc, hr.2 hc⟩
theorem split_len (sep s : List UInt8) (h : sep ≠ []) : ∀ p ∈ Lib.split s sep, p.length ≤ s.length := by
  have key : ∀ (k : Nat) (s : List UInt8), ∀ p ∈ Lib.splitK sep 0 k s, p.length ≤ s.length := by
    intro k
    induction k with
    | zero => intro s p hp; rw [Lib.splitK] at hp; obtain rfl := List.mem_singleton.1 hp; exact Nat.le_refl _
    | succ k ih =>
      intro s p hp
      rw [Lib.splitK] at hp
      split at hp
      · obtain rfl := List.mem_singleton.1 hp; exact Nat.le_refl _
      · rcases List.mem_cons.1 hp with rfl | hp
        · rw [List.length_take]; omega
        · have := ih _ p hp; rw [List.length_drop] at this; omega
  exact key _ s
theorem split_num (sep s : List UInt8) (h : sep ≠ []) : (Lib.split s sep).length ≤ s.length + 1 := by
  have h2 := Lib.splitB_data (str sep) 0 (Lib.countB (str s) (str sep)) (str s)
  have h3 : 1 ≤ (str sep).size := by rw [str_size]; cases sep with | nil => exact absurd rfl h | cons _ _ => simp
  have h4 := congrArg List.length h2
  rw [List.length_map, Lib.splitB_all _ h3 0 _ _ rfl] at h4
  have h5 := Lib.countB_le (str sep) h3 _ (str s) (Nat.le_refl _)
  have e1 : (str sep).data.toList = sep := by simp [str]
  have e2 : (str s).data.toList = s := by simp [str]
  have h6 : (Lib.split s sep).length = (Lib.splitK (str sep).data.toList 0 (Lib.countB (str s) (str sep)) (str s).data.toList).length := by
    rw [e1, e2]; show (Lib.splitK sep 0 (Lib.count s sep) s).length = _
    have : Lib.countB (str s) (str sep) = Lib.count s sep := by show Lib.count (str s).data.toList (str sep).data.toList = _; rw [e1, e2]
    rw [this]
  rw [h6, ← h4]
  rw [str_size] at h5
  omega
theorem cut_len (s : List UInt8) (c : UInt8) : (Lib.cut s [c]).1.length ≤ s.length ∧ (Lib.cut s [c]).2.1.length ≤ s.length := by
  rw [Lib.cut]; split <;> simp <;> omega
set_option maxHeartbeats 400000 in
set_option maxRecDepth 100000 in
theorem lexp_nil {l : List Int} {E : Int} (w : World) (hP : PX [] l E) : Calls Tryd.prog 22 #[.string (str [])] w (RetX w l E) := by
  obtain ⟨rfl, rfl⟩ := hP.of Asc.nil rfl
  have h0 : (str []).size = 0 := rfl
  have he : (str []).toList = [] := by rw [str_toList]
  go_enter Tryd.func22, Tryd.ntmps22
  go_wp2
  go_ret2
  exact ⟨none, 0, rfl, IEs.nil _ _, Below.refl _ _⟩
set_option maxHeartbeats 8000000 in
set_option maxRecDepth 100000 in
theorem lexp_cons {L : List UInt8} {l : List Int} {E : Int} (w : World) (hE : Env w) (hl : L.length ≤ 20000) (hne : L ≠ []) (hP : PX L l E) : Calls Tryd.prog 22 #[.string (str L)] w (RetX w l E) := by
  replace hP := Lib.hid hP
  have h0 := Lib.hid hne
  have hsz : (str L).size = L.length := str_size L
  have he : (str L).toList.isEmpty = false := by rw [str_toList]; simpa using hne
  have he2 : ((str L).toList == []) = false := by rw [str_toList]; simpa using hne
  have hE0 := hE
  obtain ⟨ws, hws⟩ : ∃ ws, Lib.split L [44, 32] = ws := ⟨_, rfl⟩
  have HWL : Hid (∀ p ∈ ws, p.length ≤ 20000) := Lib.hid (fun p hp => Nat.le_trans (split_len [44, 32] L (by simp) p (by rw [hws]; exact hp)) hl)
  have hwn : ws.length ≤ 20001 := by have := split_num [44, 32] L (by simp); rw [hws] at this; omega
  obtain ⟨C, hC⟩ : ∃ C, expP ws [] = C := ⟨_, rfl⟩
  have HCL : Hid (expP (Lib.split L [44, 32]) [] = C) := Lib.hid (by rw [hws, hC])
  have HWS := Lib.hid hws
  have HC := Lib.hid hC
  clear hws hC hne hE
  go_enter Tryd.func22, Tryd.ntmps22
  go_wp2_with fail
  refine (split_h _ HWS hE0 (by omega) (by decide)).mono ?_
  rintro e w1 ⟨rfl, rfl⟩
  have HX := BL.one w (ws.map fun x => Value.string (str x)).toArray 9
  generalize hW1 : w.alloc (.cells (ws.map fun x => Value.string (str x)).toArray 9) = W1 at *
  have hg1 : w.heap.size < W1.heap.size := HX.lt 0 rfl
  obtain ⟨B, hB⟩ : ∃ B, W1.heap.size = B := ⟨_, rfl⟩
  have hwB : w.heap.size < B := by omega
  have HOWN := IOwn.nil W1 B
  have hbo := Below.refl B W1
  have HB := Lib.hid hB
  have hBs : B ≤ W1.heap.size := by omega
  clear hB hW1 hg1 he he2
  go_wp2
  go_loopg [4, 22] ws.length (fun k u i wr => ∃ (j : Nat) (A8 : Option Addr) (c8 : Nat) (out : List Int), j + k = ws.length ∧ i = .int .i64 (j : Int) ∧ u = .slice A8 out.length c8 ∧ IOwn wr B A8 c8 out ∧ Hid (expP (ws.drop j) out = C) ∧ out.length ≤ 999 ∧ BL w wr [(w.heap.size, (ws.map fun x => Value.string (str x)).toArray, 9)] ∧ B ≤ wr.heap.size)
  case atStart => exact ⟨0, none, 0, [], by omega, rfl, rfl, HOWN, HC, by simp, HX, hBs⟩
  case round =>
    clear HOWN HX hbo HC HB hBs
    obtain ⟨j, A8, c8, out, hj, rfl, rfl, HOWN, HC, hol, HX, hBs⟩ := hrel
    by_cases hj0 : j < ws.length
    · have hx := Lib.hid (List.getElem?_eq_getElem hj0)
      have hcell : wr.cell? ⟨w.heap.size, j, none⟩ = some (.string (str ws[j])) := HX.cell 0 j rfl (by rw [List.getElem?_toArray, List.getElem?_map, hx.out]; rfl)
      have hpl : ws[j].length ≤ 20000 := HWL.out _ (List.getElem_mem hj0)
      replace HC : Hid (expP (ws[j] :: ws.drop (j + 1)) out = C) := Lib.hid (by rw [← HC.out, ← List.drop_eq_getElem_cons hj0])
      generalize ws[j] = p at *
      obtain ⟨⟨P, R, b⟩, hcut⟩ : ∃ q, Lib.cut p [45] = q := ⟨_, rfl⟩
      have hcl := cut_len p 45
      rw [hcut] at hcl
      simp only [] at hcl
      have hPl : P.length ≤ 20000 := by omega
      have hRl : R.length ≤ 20000 := by omega
      have HCUT := Lib.hid hcut
      clear hcut hcl
      go_wp2_with fail
      refine (cut_h _ HCUT (hE0.ext HX.below) (by omega)).mono ?_
      rintro e w3 ⟨rfl, hb⟩
      replace HOWN := HOWN.ext hb
      have hBs := Nat.le_trans hBs hb.size
      replace HX := HX.ext hb
      clear hb hcell
      obtain ⟨S, hS⟩ : ∃ S, (if b then R else P) = S := ⟨_, rfl⟩
      have hSl : S.length ≤ 20000 := by rw [← hS]; split <;> omega
      have HEP : Hid (endsP p = match pend (Lib.atoiAll P), pend (Lib.atoiAll S) with | some a, some b => some (a, b) | _, _ => none) := Lib.hid (by rw [endsP, HCUT.out, ← hS]; rfl)
      have HBS : Hid ((b = true ∧ R = S) ∨ (b = false ∧ P = S)) := Lib.hid (by cases b with | true => exact .inl ⟨rfl, hS⟩ | false => exact .inr ⟨rfl, hS⟩)
      clear hS HCUT
      -- the first number
      have key : ∀ (K : Prop), True → K → K := fun _ _ h => h
      clear key
      rcases HBS.out with ⟨rfl, rfl⟩ | ⟨rfl, rfl⟩
      · cases hA : Lib.atoiAll P with
        | ok lo =>
          have HA : Hid (Lib.atoiAll P = .ok lo) := Lib.hid hA
          clear hA
          go_wp2_with fail
          refine (atoi_ok _ HA (by omega)).mono ?_
          rintro e w4 ⟨rfl, hb⟩
          replace HOWN := HOWN.ext hb
          replace hBs := Nat.le_trans hBs hb.size
          replace HX := HX.ext hb
          clear hb
          cases hA2 : Lib.atoiAll R with
          | ok hi =>
            have HA2 : Hid (Lib.atoiAll R = .ok hi) := Lib.hid hA2
            clear hA2
            go_wp2_with fail
            refine (atoi_ok _ HA2 (by omega)).mono ?_
            rintro e w5 ⟨rfl, hb⟩
            replace HOWN := HOWN.ext hb
            replace hBs := Nat.le_trans hBs hb.size
            replace HX := HX.ext hb
            clear hb
            by_cases hlo : 1 ≤ lo ∧ lo ≤ 999
            · have HN1 : Tells true (Rng lo 1 999) := yes hlo
              by_cases hhi : 1 ≤ hi ∧ hi ≤ 999
              · have HN2 : Tells true (Rng hi 1 999) := yes hhi
                have HEP2 : Hid (endsP p = some (lo, hi)) := Lib.hid (by rw [HEP.out]; simp only [HA.out, HA2.out, pend, if_pos hlo, if_pos hhi])
                have HC4 : Hid ((if 999 < (out ++ rng lo hi).length then none else expP (ws.drop (j + 1)) (out ++ rng lo hi)) = C) := Lib.hid (by rw [← HC.out, expP, HEP2.out])
                go_wp2_with fail
                refine (lnum_any (b := true) _ HN1).mono ?_
                rintro e w6 ⟨rfl, rfl⟩
                go_wp2_with fail
                refine (lnum_any (b := true) _ HN2).mono ?_
                rintro e w6 ⟨rfl, rfl⟩
                clear HEP HEP2 HA HA2 HN1 HN2 HC
                go_wp2
                go_loopg [4, 14] (hi - lo + 1).toNat (fun k u i wi => ∃ (n : Int) (A9 : Option Addr) (c9 : Nat) (o : List Int), (hi - n + 1).toNat = k ∧ lo ≤ n ∧ n ≤ 1000 ∧ i = .int .i64 n ∧ u = .slice A9 o.length c9 ∧ Hid (o = out ++ rng lo (n - 1)) ∧ o.length ≤ 2000 ∧ IOwn wi B A9 c9 o ∧ BL w wi [(w.heap.size, (ws.map fun x => Value.string (str x)).toArray, 9)] ∧ B ≤ wi.heap.size ∧ (n ≤ hi + 1 ∨ hi < lo ∧ n = lo))
                case atStart => exact ⟨lo, A8, c8, out, rfl, by omega, by omega, rfl, rfl, Lib.hid (by rw [rng_none (show lo - 1 < lo by omega), List.append_nil]), by omega, HOWN, HX, hBs, by omega⟩
                case round =>
                  clear HOWN HX hBs
                  obtain ⟨n, A9, c9, o, hk, hn1, hn2, rfl, rfl, ho, hoo, HOWN, HX, hBs, hn3⟩ := hrel
                  by_cases hnh : n ≤ hi
                  · have ho2 : Hid (o ++ [n] = out ++ rng lo (n + 1 - 1)) := Lib.hid (by
                      have h1 := rng_snoc (a := lo) (b := n - 1) (by omega)
                      rw [show n - 1 + 1 = n by omega] at h1
                      rw [show n + 1 - 1 = n by omega, h1, ho.out, List.append_assoc])
                    have hol2 : (o ++ [n]).length ≤ 2000 := by rw [ho2.out, List.length_append, rng_len]; omega
                    go_wp2_with (at_builtin; refine wp_push EI _ rfl _ _ rfl rfl rfl HOWN (by rfl) (by omega) (by omega) hBs ?_)
                    intro A7 c7 w7 hown7 hgr hbl hlt
                    replace hown7 := IOwn.snoc hown7 rfl
                    have HX7 := HX.low (Nat.le_of_lt hwB) (fun i p hp => by match i, hp with | 0, hp => (simp at hp; subst hp; exact hwB) | i + 1, hp => simp at hp) hbl
                    have hBs7 := Nat.le_trans hBs hbl.size
                    clear hgr hbl hlt HOWN HX
                    go_wp2
                    go_roundg (hi - (n + 1) + 1).toNat
                    case measure => omega
                    case rel => exact ⟨n + 1, A7, c7, o ++ [n], rfl, by omega, by omega, rfl, by rw [List.length_append]; rfl, ho2, hol2, hown7, HX7, hBs7, by omega⟩
                  · have ho2 : Hid (o = out ++ rng lo hi) := Lib.hid (by
                      rcases hn3 with h | ⟨h, rfl⟩
                      · rw [ho.out, show n - 1 = hi by omega]
                      · rw [ho.out, rng_none (show n - 1 < n by omega), rng_none h])
                    by_cases h999 : 999 < o.length
                    · have HC0 : Hid (expP (Lib.split L [44, 32]) [] = none) := Lib.hid (by rw [HCL.out, ← HC4.out, ← ho2.out, if_pos h999])
                      obtain ⟨rfl, rfl⟩ := hP.out.failP h0.out HC0.out
                      go_wp2
                      go_ret2
                      exact ⟨none, 0, rfl, IEs.nil _ _, HX.below⟩
                    · have HC5 : Hid (expP (ws.drop (j + 1)) o = C) := Lib.hid (by rw [← HC4.out, ← ho2.out, if_neg h999])
                      have h999b : decide ((999 : Int) < (o.length : Int)) = false := decide_eq_false (by omega)
                      go_wp2
                      go_roundg (ws.length - (j + 1))
                      case measure => omega
                      case rel => exact ⟨j + 1, A9, c9, o, by omega, by go_num, rfl, HOWN, HC5, by omega, HX, hBs⟩
              · have HN2 : Tells false (Rng hi 1 999) := no hhi
                have HC0 : Hid (expP (Lib.split L [44, 32]) [] = none) := Lib.hid (by rw [HCL.out, ← HC.out, expP, show endsP p = none from by rw [HEP.out]; simp only [HA.out, HA2.out, pend, if_pos hlo, if_neg hhi]])
                go_wp2_with fail
                refine (lnum_any (b := true) _ HN1).mono ?_
                rintro e w6 ⟨rfl, rfl⟩
                go_wp2_with fail
                refine (lnum_any (b := false) _ HN2).mono ?_
                rintro e w6 ⟨rfl, rfl⟩
                clear hlo hhi
                obtain ⟨rfl, rfl⟩ := hP.out.failP h0.out HC0.out
                go_wp2
                go_ret2
                exact ⟨none, 0, rfl, IEs.nil _ _, HX.below⟩
            · have HN1 : Tells false (Rng lo 1 999) := no hlo
              have HC0 : Hid (expP (Lib.split L [44, 32]) [] = none) := Lib.hid (by rw [HCL.out, ← HC.out, expP, show endsP p = none from by rw [HEP.out]; simp only [HA.out, pend, if_neg hlo]])
              go_wp2_with fail
              refine (lnum_any (b := false) _ HN1).mono ?_
              rintro e w6 ⟨rfl, rfl⟩
              clear hlo
              obtain ⟨rfl, rfl⟩ := hP.out.failP h0.out HC0.out
              go_wp2
              go_ret2
              exact ⟨none, 0, rfl, IEs.nil _ _, HX.below⟩
          | range =>
            have HA2 : Hid (∀ n, Lib.atoiAll R ≠ .ok n) := Lib.hid (by intro n h; rw [hA2] at h; cases h)
            have HC0 : Hid (expP (Lib.split L [44, 32]) [] = none) := Lib.hid (by rw [HCL.out, ← HC.out, expP, show endsP p = none from by rw [HEP.out, HA.out, hA2]; generalize pend (Lib.NumEnd.ok lo) = q; cases q <;> rfl])
            clear hA2
            go_wp2_with fail
            refine (atoi_bad _ HA2 (hE0.ext HX.below) (by omega)).mono ?_
            rintro e w5 ⟨v, N, rfl, hb⟩
            replace HOWN := HOWN.ext hb
            replace hBs := Nat.le_trans hBs hb.size
            replace HX := HX.ext hb
            clear hb
            obtain ⟨rfl, rfl⟩ := hP.out.failP h0.out HC0.out
            go_wp2
            go_ret2
            exact ⟨none, 0, rfl, IEs.nil _ _, HX.below⟩
          | _ =>
            have HA2 : Hid (∀ n, Lib.atoiAll R ≠ .ok n) := Lib.hid (by intro n h; rw [hA2] at h; cases h)
            have HC0 : Hid (expP (Lib.split L [44, 32]) [] = none) := Lib.hid (by rw [HCL.out, ← HC.out, expP, show endsP p = none from by rw [HEP.out, HA.out, hA2]; generalize pend (Lib.NumEnd.ok lo) = q; cases q <;> rfl])
            clear hA2
            go_wp2_with fail
            refine (atoi_bad _ HA2 (hE0.ext HX.below) (by omega)).mono ?_
            rintro e w5 ⟨v, N, rfl, hb⟩
            replace HOWN := HOWN.ext hb
            replace hBs := Nat.le_trans hBs hb.size
            replace HX := HX.ext hb
            clear hb
            obtain ⟨rfl, rfl⟩ := hP.out.failP h0.out HC0.out
            go_wp2
            go_ret2
            exact ⟨none, 0, rfl, IEs.nil _ _, HX.below⟩
        | range =>
          have HA : Hid (∀ n, Lib.atoiAll P ≠ .ok n) := Lib.hid (by intro n h; rw [hA] at h; cases h)
          have HC0 : Hid (expP (Lib.split L [44, 32]) [] = none) := Lib.hid (by rw [HCL.out, ← HC.out, expP, show endsP p = none from by rw [HEP.out, hA]; rfl])
          clear hA
          go_wp2_with fail
          refine (atoi_bad _ HA (hE0.ext HX.below) (by omega)).mono ?_
          rintro e w4 ⟨v, N, rfl, hb⟩
          replace HOWN := HOWN.ext hb
          replace hBs := Nat.le_trans hBs hb.size
          replace HX := HX.ext hb
          clear hb
          go_wp2_with fail
          refine (atoi_any (L := R) _ (hE0.ext HX.below) (by omega)).mono ?_
          rintro e w5 ⟨v2, ev, rfl, hb⟩
          replace HOWN := HOWN.ext hb
          replace hBs := Nat.le_trans hBs hb.size
          replace HX := HX.ext hb
          clear hb
          obtain ⟨rfl, rfl⟩ := hP.out.failP h0.out HC0.out
          go_wp2
          go_ret2
          exact ⟨none, 0, rfl, IEs.nil _ _, HX.below⟩
        | _ =>
          have HA : Hid (∀ n, Lib.atoiAll P ≠ .ok n) := Lib.hid (by intro n h; rw [hA] at h; cases h)
          have HC0 : Hid (expP (Lib.split L [44, 32]) [] = none) := Lib.hid (by rw [HCL.out, ← HC.out, expP, show endsP p = none from by rw [HEP.out, hA]; rfl])
          clear hA
          go_wp2_with fail
          refine (atoi_bad _ HA (hE0.ext HX.below) (by omega)).mono ?_
          rintro e w4 ⟨v, N, rfl, hb⟩
          replace HOWN := HOWN.ext hb
          replace hBs := Nat.le_trans hBs hb.size
          replace HX := HX.ext hb
          clear hb
          go_wp2_with fail
          refine (atoi_any (L := R) _ (hE0.ext HX.below) (by omega)).mono ?_
          rintro e w5 ⟨v2, ev, rfl, hb⟩
          replace HOWN := HOWN.ext hb
          replace hBs := Nat.le_trans hBs hb.size
          replace HX := HX.ext hb
          clear hb
          obtain ⟨rfl, rfl⟩ := hP.out.failP h0.out HC0.out
          go_wp2
          go_ret2
          exact ⟨none, 0, rfl, IEs.nil _ _, HX.below⟩
      · cases hA : Lib.atoiAll P with
        | ok lo =>
          have HA : Hid (Lib.atoiAll P = .ok lo) := Lib.hid hA
          clear hA
          go_wp2_with fail
          refine (atoi_ok _ HA (by omega)).mono ?_
          rintro e w4 ⟨rfl, hb⟩
          replace HOWN := HOWN.ext hb
          replace hBs := Nat.le_trans hBs hb.size
          replace HX := HX.ext hb
          clear hb
          cases hA2 : Lib.atoiAll P with
          | ok hi =>
            have HA2 : Hid (Lib.atoiAll P = .ok hi) := Lib.hid hA2
            clear hA2
            obtain rfl : lo = hi := by have := HA.out.symm.trans HA2.out; injection this
            go_wp2_with fail
            refine (atoi_ok _ HA2 (by omega)).mono ?_
            rintro e w5 ⟨rfl, hb⟩
            replace HOWN := HOWN.ext hb
            replace hBs := Nat.le_trans hBs hb.size
            replace HX := HX.ext hb
            clear hb
            by_cases hlo : 1 ≤ lo ∧ lo ≤ 999
            · have HN1 : Tells true (Rng lo 1 999) := yes hlo
              by_cases hhi : 1 ≤ lo ∧ lo ≤ 999
              · have HN2 : Tells true (Rng lo 1 999) := yes hhi
                have HEP2 : Hid (endsP p = some (lo, lo)) := Lib.hid (by rw [HEP.out]; simp only [HA.out, HA2.out, pend, if_pos hlo, if_pos hhi])
                have HC4 : Hid ((if 999 < (out ++ rng lo lo).length then none else expP (ws.drop (j + 1)) (out ++ rng lo lo)) = C) := Lib.hid (by rw [← HC.out, expP, HEP2.out])
                go_wp2_with fail
                refine (lnum_any (b := true) _ HN1).mono ?_
                rintro e w6 ⟨rfl, rfl⟩
                go_wp2_with fail
                refine (lnum_any (b := true) _ HN2).mono ?_
                rintro e w6 ⟨rfl, rfl⟩
                clear HEP HEP2 HA HA2 HN1 HN2 HC
                go_wp2
                go_loopg [4, 14] (lo - lo + 1).toNat (fun k u i wi => ∃ (n : Int) (A9 : Option Addr) (c9 : Nat) (o : List Int), (lo - n + 1).toNat = k ∧ lo ≤ n ∧ n ≤ 1000 ∧ i = .int .i64 n ∧ u = .slice A9 o.length c9 ∧ Hid (o = out ++ rng lo (n - 1)) ∧ o.length ≤ 2000 ∧ IOwn wi B A9 c9 o ∧ BL w wi [(w.heap.size, (ws.map fun x => Value.string (str x)).toArray, 9)] ∧ B ≤ wi.heap.size ∧ (n ≤ lo + 1 ∨ lo < lo ∧ n = lo))
                case atStart => exact ⟨lo, A8, c8, out, rfl, by omega, by omega, rfl, rfl, Lib.hid (by rw [rng_none (show lo - 1 < lo by omega), List.append_nil]), by omega, HOWN, HX, hBs, by omega⟩
                case round =>
                  clear HOWN HX hBs
                  obtain ⟨n, A9, c9, o, hk, hn1, hn2, rfl, rfl, ho, hoo, HOWN, HX, hBs, hn3⟩ := hrel
                  by_cases hnh : n ≤ lo
                  · have ho2 : Hid (o ++ [n] = out ++ rng lo (n + 1 - 1)) := Lib.hid (by
                      have h1 := rng_snoc (a := lo) (b := n - 1) (by omega)
                      rw [show n - 1 + 1 = n by omega] at h1
                      rw [show n + 1 - 1 = n by omega, h1, ho.out, List.append_assoc])
                    have hol2 : (o ++ [n]).length ≤ 2000 := by rw [ho2.out, List.length_append, rng_len]; omega
                    go_wp2_with (at_builtin; refine wp_push EI _ rfl _ _ rfl rfl rfl HOWN (by rfl) (by omega) (by omega) hBs ?_)
                    intro A7 c7 w7 hown7 hgr hbl hlt
                    replace hown7 := IOwn.snoc hown7 rfl
                    have HX7 := HX.low (Nat.le_of_lt hwB) (fun i p hp => by match i, hp with | 0, hp => (simp at hp; subst hp; exact hwB) | i + 1, hp => simp at hp) hbl
                    have hBs7 := Nat.le_trans hBs hbl.size
                    clear hgr hbl hlt HOWN HX
                    go_wp2
                    go_roundg (lo - (n + 1) + 1).toNat
                    case measure => omega
                    case rel => exact ⟨n + 1, A7, c7, o ++ [n], rfl, by omega, by omega, rfl, by rw [List.length_append]; rfl, ho2, hol2, hown7, HX7, hBs7, by omega⟩
                  · have ho2 : Hid (o = out ++ rng lo lo) := Lib.hid (by
                      rcases hn3 with h | ⟨h, rfl⟩
                      · rw [ho.out, show n - 1 = lo by omega]
                      · rw [ho.out, rng_none (show n - 1 < n by omega), rng_none h])
                    by_cases h999 : 999 < o.length
                    · have HC0 : Hid (expP (Lib.split L [44, 32]) [] = none) := Lib.hid (by rw [HCL.out, ← HC4.out, ← ho2.out, if_pos h999])
                      obtain ⟨rfl, rfl⟩ := hP.out.failP h0.out HC0.out
                      go_wp2
                      go_ret2
                      exact ⟨none, 0, rfl, IEs.nil _ _, HX.below⟩
                    · have HC5 : Hid (expP (ws.drop (j + 1)) o = C) := Lib.hid (by rw [← HC4.out, ← ho2.out, if_neg h999])
                      have h999b : decide ((999 : Int) < (o.length : Int)) = false := decide_eq_false (by omega)
                      go_wp2
                      go_roundg (ws.length - (j + 1))
                      case measure => omega
                      case rel => exact ⟨j + 1, A9, c9, o, by omega, by go_num, rfl, HOWN, HC5, by omega, HX, hBs⟩
              · exact absurd hlo hhi
            · have HN1 : Tells false (Rng lo 1 999) := no hlo
              have HC0 : Hid (expP (Lib.split L [44, 32]) [] = none) := Lib.hid (by rw [HCL.out, ← HC.out, expP, show endsP p = none from by rw [HEP.out]; simp only [HA.out, pend, if_neg hlo]])
              go_wp2_with fail
              refine (lnum_any (b := false) _ HN1).mono ?_
              rintro e w6 ⟨rfl, rfl⟩
              clear hlo
              obtain ⟨rfl, rfl⟩ := hP.out.failP h0.out HC0.out
              go_wp2
              go_ret2
              exact ⟨none, 0, rfl, IEs.nil _ _, HX.below⟩
          | range => rw [HA.out] at hA2; cases hA2
          | _ => rw [HA.out] at hA2; cases hA2
        | range =>
          have HA : Hid (∀ n, Lib.atoiAll P ≠ .ok n) := Lib.hid (by intro n h; rw [hA] at h; cases h)
          have HC0 : Hid (expP (Lib.split L [44, 32]) [] = none) := Lib.hid (by rw [HCL.out, ← HC.out, expP, show endsP p = none from by rw [HEP.out, hA]; rfl])
          clear hA
          go_wp2_with fail
          refine (atoi_bad _ HA (hE0.ext HX.below) (by omega)).mono ?_
          rintro e w4 ⟨v, N, rfl, hb⟩
          replace HOWN := HOWN.ext hb
          replace hBs := Nat.le_trans hBs hb.size
          replace HX := HX.ext hb
          clear hb
          go_wp2_with fail
          refine (atoi_any (L := P) _ (hE0.ext HX.below) (by omega)).mono ?_
          rintro e w5 ⟨v2, ev, rfl, hb⟩
          replace HOWN := HOWN.ext hb
          replace hBs := Nat.le_trans hBs hb.size
          replace HX := HX.ext hb
          clear hb
          obtain ⟨rfl, rfl⟩ := hP.out.failP h0.out HC0.out
          go_wp2
          go_ret2
          exact ⟨none, 0, rfl, IEs.nil _ _, HX.below⟩
        | _ =>
          have HA : Hid (∀ n, Lib.atoiAll P ≠ .ok n) := Lib.hid (by intro n h; rw [hA] at h; cases h)
          have HC0 : Hid (expP (Lib.split L [44, 32]) [] = none) := Lib.hid (by rw [HCL.out, ← HC.out, expP, show endsP p = none from by rw [HEP.out, hA]; rfl])
          clear hA
          go_wp2_with fail
          refine (atoi_bad _ HA (hE0.ext HX.below) (by omega)).mono ?_
          rintro e w4 ⟨v, N, rfl, hb⟩
          replace HOWN := HOWN.ext hb
          replace hBs := Nat.le_trans hBs hb.size
          replace HX := HX.ext hb
          clear hb
          go_wp2_with fail
          refine (atoi_any (L := P) _ (hE0.ext HX.below) (by omega)).mono ?_
          rintro e w5 ⟨v2, ev, rfl, hb⟩
          replace HOWN := HOWN.ext hb
          replace hBs := Nat.le_trans hBs hb.size
          replace HX := HX.ext hb
          clear hb
          obtain ⟨rfl, rfl⟩ := hP.out.failP h0.out HC0.out
          go_wp2
          go_ret2
          exact ⟨none, 0, rfl, IEs.nil _ _, HX.below⟩
    · have HC2 := HC.out
      rw [List.drop_eq_nil_of_le (show ws.length ≤ j by omega), expP] at HC2
      have HC3 : Hid (expP (Lib.split L [44, 32]) [] = some out) := Lib.hid (HCL.out.trans HC2.symm)
      clear HC2
      obtain ⟨T, F, hPR⟩ := PR.ex out
      have hTl := hPR.len
      have hsT : (str T).size = T.length := str_size T
      have hfin := Lib.hid (hP.out.readP h0.out HC3.out hPR)
      have HPR := Lib.hid hPR
      have hF : F = 0 ∨ F = 1 := by rcases hPR with ⟨h, _⟩ | ⟨h, _⟩ <;> omega
      clear hPR
      have hcap : out.length ≤ c8 := IOwn.cap HOWN
      go_wp2_with fail
      refine (lruns_any A8 c8 out _ (hE0.ext HX.below).tab HOWN.es (by omega) HPR.out).mono ?_
      rintro e w3 ⟨rfl, hb⟩
      replace HOWN := HOWN.ext hb
      replace HX := HX.ext hb
      clear hb
      rcases hfin.out with ⟨rfl, rfl, rfl, rfl⟩ | ⟨hn, rfl, rfl⟩
      · have hs : ((str T).toList == (str T).toList) = true := beq_self_eq_true _
        clear hF
        go_wp2_with fail
        refine (clip_any A8 _ c8 _ hcap (by omega)).mono ?_
        rintro e w4 ⟨rfl, rfl⟩
        go_wp2
        go_ret2
        exact ⟨A8, _, rfl, HOWN.es, HX.below⟩
      · rcases hF with rfl | rfl
        · have hs : ((str T).toList == (str L).toList) = false := str_eq (beq_eq_false_iff_ne.2 fun e => hn ⟨rfl, e⟩)
          clear hn
          go_wp2
          go_ret2
          exact ⟨none, 0, rfl, IEs.nil _ _, HX.below⟩
        · clear hn
          go_wp2
          go_ret2
          exact ⟨none, 0, rfl, IEs.nil _ _, HX.below⟩
end Go.Proofs.YtlnajhochpbgpaaDoor
