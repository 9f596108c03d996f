/- strconv.FormatUint at base ten; natural.Text, Digits. -/
import Derived.Test.YtolkijelldlmeaaGreatDoorText1
namespace Go.Proofs.YtolkijelldlmeaaGreatDoor
open Go.RowKit Go.Proofs Go Go.Sort

/-- the library's table of powers of ten lies in memory -/
def Tab (w : World) : Prop := Lib.TabIs Tryz.prog w "internal/strconv.uint64pow10" .u64 Lib.pow10Tab
theorem Tab.ext {w w' : World} (h : Tab w) (hb : Below w.heap.size w w') : Tab w' := by
  unfold Tab Lib.TabIs World.var? at *
  cases hg : Program.globalNamed Tryz.prog "internal/strconv.uint64pow10" with
  | none => simp [hg] at h
  | some g =>
    simp only [hg, Option.bind_some] at h ⊢
    have hlt : g < w.heap.size := by
      rcases Nat.lt_or_ge g w.heap.size with h' | h'
      · exact h'
      · rw [Array.getElem?_eq_none h'] at h; simp at h
    rw [hb.block g hlt]
    exact h
/-- a string, byte for byte -/
def str (l : List UInt8) : ByteArray := ⟨l.toArray⟩
theorem str_size (l : List UInt8) : (str l).size = l.length := by simp [str, ByteArray.size]
theorem str_append (l m : List UInt8) : str l ++ str m = str (l ++ m) := by
  apply ByteArray.ext
  simp [str]
theorem str_toList (l : List UInt8) : (str l).toList = l := by
  rw [Go.ByteArray.toList_eq]
  simp [str]
theorem str_inj {l m : List UInt8} : str l = str m ↔ l = m := by
  constructor
  · intro h; have := congrArg (fun b => b.data.toList) h; simpa [str] using this
  · intro h; rw [h]
theorem dec_eq_one {d : Nat} : Lib.decDigits d = [49] ↔ d = 1 := by
  constructor
  · intro h
    by_cases hd : d < 10
    · rw [Lib.decDigits_one hd] at h
      have h1 : ∀ d : Fin 10, UInt8.ofNat (48 + d.val) = 49 → d.val = 1 := by decide
      exact h1 ⟨d, hd⟩ (by simpa using h)
    · have := congrArg List.length h
      rw [Lib.decDigits_length, Lib.nDigits_big hd] at this
      have := Lib.nDigits_pos (d / 10)
      simp at *
      omega
  · intro h; subst h; exact Lib.decDigits_one (by omega)
theorem str_take (l : List UInt8) (j : Nat) : (str l).extract 0 j = str (l.take j) := by
  apply ByteArray.ext
  simp [str]
theorem str_drop (l : List UInt8) (j : Nat) : (str l).extract j l.length = str (l.drop j) := by
  apply ByteArray.ext
  simp [str, List.take_of_length_le]
theorem strCells_str (l : List UInt8) : Lib.strCells (str l) = Lib.byteCells l := by simp [Lib.strCells, Lib.byteCells, str]
theorem byteCells_append (l m : List UInt8) : Lib.byteCells l ++ Lib.byteCells m = Lib.byteCells (l ++ m) := by simp [Lib.byteCells]

theorem byteCells_len (l : List UInt8) : (Lib.byteCells l).length = l.length := by simp [Lib.byteCells]
theorem holds_zero0 (w : World) (T : TypeId) (nd : Nat) (hs : nd ≤ 24) : Holds (fun (b : UInt8) => Value.int .u8 (b.toNat : Int)) (w.alloc (.cells Lib.zeros24 T)) w.heap.size 0 (Array.replicate nd (0 : UInt8)) := fun j hj => by
  have hj' : j < nd := by simpa using hj
  refine ⟨?_, World.frozen?_alloc_new _ _ _ _⟩
  rw [World.cell?_alloc_new, Lib.zeros24_at _ (by omega), getElem!_pos _ j hj]
  simp
theorem below_putRow (w : World) (o : Obj) (dk : Array UInt8) (k off : Nat) : Below w.heap.size w ((putRow (fun (b : UInt8) => Value.int .u8 (b.toNat : Int)) (w.alloc o) w.heap.size off dk).drewN k) := by
  have h : Below w.heap.size (w.alloc o) (putRow (fun (b : UInt8) => Value.int .u8 (b.toNat : Int)) (w.alloc o) w.heap.size off dk) := by
    refine ⟨rfl, rfl, rfl, ?_, ?_⟩
    · simp [putRow, mapBlock]
    · intro i hi
      simp only [putRow, mapBlock]
      rw [Array.getElem?_modify, if_neg (by omega)]
  exact drew_below ((below_alloc w o).trans h) k

set_option maxHeartbeats 6400000 in
set_option maxRecDepth 100000 in
theorem iformat_any (u : Nat) (hu64 : u < 18446744073709551616) (w : World) (hT : Tab w) :
    Calls Tryz.prog 233 #[.int .u64 u, .int .i64 10] w fun e w' => e = .returned (.string (str (Lib.decDigits u))) ∧ Below w.heap.size w w' := by
  by_cases hs : u < 100
  · go_enter Tryz.func233, Tryz.ntmps233
    go_wp2_with (go_at_call 297; refine (Tryz.internal_strconv_small u hs _).mono ?_; rintro e w' ⟨rfl, rfl⟩)
    go_ret
    exact ⟨rfl, Below.refl _ _⟩
  · have hu1 : 1 ≤ u := by omega
    have hnd20 : Lib.nDigits u ≤ 20 := by have := Lib.numDigits_eq u hu1 hu64; split at this <;> omega
    have hal : Tryz.prog.arrayLen 326 = 24 := by simp [Program.arrayLen, Tryz.underlying326]
    have hsl1 : ∀ W, (Instr.sliceAt 326 (.pointer (some ⟨w.heap.size, 0, none⟩)) none (some (.int .i64 (Lib.nDigits u : Int))) none).run Tryz.prog W = .ok (.slice (some ⟨w.heap.size, 0, none⟩) (Lib.nDigits u) 24) W := fun W => by
      rw [run_sliceAt_array_h W 326 ⟨w.heap.size, 0, none⟩ (by simp [Program.arrayLen, Program.elem, Tryz.underlying326]) .i64 (Lib.nDigits u : Int) (by omega) (by rw [hal]; omega)]
      go_simp
    have hH0 := holds_zero0 w 326 (Lib.nDigits u) (by omega)
    have hfmt := Tryz.internal_strconv_formatBase10 w.heap.size 0 24 u (Array.replicate (Lib.nDigits u) 0) (w.alloc (.cells Lib.zeros24 326)) hH0 (by rw [Array.size_replicate]; exact Lib.lt_pow_nDigits u) hu64 (by rw [Array.size_replicate]; omega)
    rw [Array.size_replicate] at hfmt
    have HH0 := Lib.hid hH0
    clear hH0 hal
    go_enter Tryz.func233, Tryz.ntmps233
    go_wp2_with (first
      | (go_at_call 298; refine (Tryz.internal_strconv_numDigits u hu1 hu64 _ (Lib.tabIs_alloc hT _)).mono ?_; rintro e w' ⟨rfl, rfl⟩))
    go_at_call 299
    refine hfmt.mono ?_
    rintro e w' ⟨rfl, k, v', dk, rfl, hF⟩
    have hcv : (convert 182 9 (.slice (some ⟨w.heap.size, 0, none⟩) (Lib.nDigits u) 24)).run Tryz.prog ((putRow (fun (b : UInt8) => Value.int .u8 (b.toNat : Int)) (w.alloc (.cells Lib.zeros24 326)) w.heap.size 0 dk).drewN k) = .ok (.string ⟨(Lib.decDigits u).toArray⟩) ((putRow (fun (b : UInt8) => Value.int .u8 (b.toNat : Int)) (w.alloc (.cells Lib.zeros24 326)) w.heap.size 0 dk).drewN k) := by
      have h := run_convert_bytes_back (P := Tryz.prog) ((putRow (fun (b : UInt8) => Value.int .u8 (b.toNat : Int)) (w.alloc (.cells Lib.zeros24 326)) w.heap.size 0 dk).drewN k) 182 9 5 ⟨w.heap.size, 0, none⟩ 24 (Lib.decDigits u) Tryz.underlying182 Tryz.underlying5 Tryz.underlying9 (fun j hj => by
        rw [Lib.row_is_numeral hF j hj, Lib.add_plain, World.cell?_drewN]
        exact cell?_putRow (fun (b : UInt8) => Value.int .u8 (b.toNat : Int)) _ w.heap.size 0 _ dk HH0.out (by rw [hF.size, Array.size_replicate]) j (by rw [hF.size]; rw [Lib.decDigits_length] at hj; exact hj))
      rw [Lib.decDigits_length] at h
      exact h
    go_wp2
    go_ret
    exact ⟨rfl, below_putRow w _ dk k 0⟩

theorem format_any (u : Nat) (hu64 : u < 18446744073709551616) (w : World) (hT : Tab w) :
    Calls Tryz.prog 149 #[.int .u64 u, .int .i64 10] w fun e w' => e = .returned (.string (str (Lib.decDigits u))) ∧ Below w.heap.size w w' := by
  go_enter Tryz.func149, Tryz.ntmps149
  go_wp2_with (go_at_call 233; refine (iformat_any u hu64 _ hT).mono ?_)
  rintro e w' ⟨rfl, hb⟩
  go_wp2
  go_ret
  exact ⟨rfl, hb⟩

/-- the numeral, nothing for 0 -/
def dec0 (n : Nat) : List UInt8 := if n = 0 then [] else Lib.decDigits n
theorem dec0_top {n k : Nat} (h : (dig n).length = k + 1) : dec0 (n / pw k) = Lib.decDigits (at_ (dig n) k) ∧ dec0 (n / pw (k + 1)) = [] := by
  have h0 : 0 < n := dig_len_pos.1 (by omega)
  have h1 := dig_top h0
  rw [h] at h1
  have e := dig_last n h
  refine ⟨?_, ?_⟩
  · rw [e, dec0, if_neg (by simp at h1; omega)]
  · rw [div_len n (by omega)]; rfl
theorem dec0_next {n k : Nat} (h : k + 1 < (dig n).length) : dec0 (n / pw k) = dec0 (n / pw (k + 1)) ++ (zeros (9 - Lib.nDigits (at_ (dig n) k)) ++ Lib.decDigits (at_ (dig n) k)) := by
  have h0 : 0 < n := dig_len_pos.1 (by omega)
  have hp : 0 < n / pw (k + 1) := Nat.div_pos (Nat.le_trans (pw_le (by omega)) (dig_ge h0)) (pw_pos _)
  have hq : 0 < n / pw k := by rw [div_pw_succ]; omega
  rw [dec0, if_neg (by omega), dec0, if_neg (by omega), dec_limb hp]
theorem dec0_len {n k : Nat} (h : (dig n).length ≤ k) : (dec0 n).length ≤ 9 * k + 1 := by
  unfold dec0
  split
  · simp
  · rw [Lib.decDigits_length]; exact nDigits_dig h

theorem builderAt_ext {T e : TypeId} {B b : Nat} {p : Value} {bs : List Value} {w w' : World} (h : Lib.BuilderAt T e B b p bs w) (hb : Below w.heap.size w w') : Lib.BuilderAt T e B b p bs w' := by
  have hlt := h.lt
  obtain ⟨hB, v, hbk, hown, hne⟩ := h
  refine ⟨hB, v, by rw [hb.block _ hlt]; exact hbk, World.ownsRow.kept hown (grown_of_below hb none) ?_, hne⟩
  cases v.ownBlock with
  | none => exact .inl rfl
  | some g => exact .inr (by simp)
theorem isBuilder_ext {T e : TypeId} {B b : Nat} {bs : List Value} {w w' : World} (h : Lib.IsBuilder T e B b bs w) (hb : Below w.heap.size w w') : Lib.IsBuilder T e B b bs w' :=
  h.imp (builderAt_ext · hb) (builderAt_ext · hb)
theorem isBuilder_lt {T e : TypeId} {B b : Nat} {bs : List Value} {w : World} (h : Lib.IsBuilder T e B b bs w) : B ≤ b ∧ b < w.heap.size := by
  rcases h with h | h <;> exact ⟨h.1, h.lt⟩

set_option maxHeartbeats 1000000 in
set_option maxRecDepth 100000 in
theorem ntext_any (A : Option Addr) (n c : Nat) (l : List Nat) (w : World) (H : Lim w A c l) (hn : n = l.length) (hl : n ≤ 1073741824) (hT : Tab w) :
    Calls Tryz.prog 71 #[.agg #[.slice A n c]] w fun e w' => e = .returned (.string (str (Lib.decDigits (val l)))) ∧ Below w.heap.size w w' := by
  have hdl := dig_len_of H.small hn
  have HN := Lib.hid hn
  clear hn
  by_cases h0 : val l = 0
  · have hz : (dig (val l)).length = 0 := by rw [h0]; rfl
    have H0 := Lib.hid h0
    clear h0
    go_enter Tryz.func71, Tryz.ntmps71
    go_wp2_with fail
    have HX := Bx.one w #[.slice A n c] 34
    refine (limbs_any A n c l _ (H.ext HX.below) HN.out (by omega)).mono ?_
    rintro e w1 ⟨A1, c1, rfl, H1, hb1⟩
    have HX1 := HX.ext hb1
    go_wp2
    go_ret
    refine ⟨?_, HX1.below⟩
    rw [H0.out, dec_zero]
    rfl
  · have hlen := dig_len_pos.2 (Nat.pos_of_ne_zero h0)
    clear h0
    obtain ⟨N, hN⟩ : ∃ N, val l = N := ⟨_, rfl⟩
    rw [hN] at hlen hdl
    rw [hN]
    have HV := Lib.hid hN
    clear hN
    go_enter Tryz.func71, Tryz.ntmps71
    go_wp2_with fail
    have HX := Bx.one w #[.slice A n c] 34
    refine (limbs_any A n c l _ (H.ext HX.below) HN.out (by omega)).mono ?_
    rintro e w1 ⟨A1, c1, rfl, H1, hb1⟩
    rw [HV.out] at H1
    rw [HV.out]
    have HB1 := (HX.ext hb1).below
    have hT1 := hT.ext HB1
    clear HX hb1 H HN
    have hNat := Nat.lt_of_lt_of_le (dig_lt N) (Nat.le_refl _)
    go_upto_region 5 with fail
    have hI0 := Lib.fresh_isBuilder 184 5 w1
    obtain ⟨W, hW⟩ : ∃ W, W = w1.alloc (.cells #[.pointer none, .slice none 0 0] 184) := ⟨_, rfl⟩
    have hbW : Below w1.heap.size w1 W := by rw [hW]; exact below_alloc _ _
    rw [← hW] at hI0
    rw [← hW]
    clear hW
    generalize hb0 : w1.heap.size = b at *
    go_wp2
    rw [show (((dig N).length : Int) == 0) = false by simp; intro h; rw [h] at hlen; simp at hlen]
    go_loopg [5] (dig N).length (fun k x wr => ∃ j : Nat, j ≤ k ∧ j ≤ (dig N).length ∧ x = .int .i64 ((j : Int) - 1) ∧ Lib.IsBuilder 184 5 b b (Lib.byteCells (dec0 (N / pw j))) wr ∧ Below b w1 wr)
    case atStart => 
      refine ⟨(dig N).length, Nat.le_refl _, Nat.le_refl _, rfl, ?_, hbW⟩
      rw [show N / pw (dig N).length = 0 from Nat.div_eq_of_lt (dig_lt N)]
      exact hI0
    case round =>
      obtain ⟨j, hjk, hjl, rfl, hI, hbr⟩ := hrel
      have hT := hT1.ext (hb0 ▸ hbr)
      have H := H1.ext (hb0 ▸ hbr)
      have hBb := isBuilder_lt hI
      by_cases hj0 : j = 0
      · subst hj0
        rw [pw_zero, Nat.div_one] at hI
        have hlen' := hlen
        clear hlen
        go_wp2_with fail
        refine (Tryz.Builder_String_any b b (dec0 N) wr hI (by omega)).mono ?_
        rintro e w2 ⟨rfl, hb2⟩
        go_wp2
        go_ret
        refine ⟨?_, HB1.trans ((hbr.trans hb2).mono (by have := HB1.size; omega))⟩
        rw [dec0, if_neg (fun h => by rw [h] at hlen'; simp [dig_zero] at hlen')]
        rfl
      · obtain ⟨i, rfl⟩ : ∃ i, j = i + 1 := ⟨j - 1, by omega⟩
        have hi : i < (dig N).length := by omega
        obtain ⟨ad, rfl, hadb, hadc⟩ := H.cell (by omega)
        have hc := hadc i hi
        have hd9 := dig_Dig N i
        have hnd : Lib.nDigits (at_ (dig N) i) ≤ 9 := nDigits_le (by omega) hd9
        have hsz : ((str (Lib.decDigits (at_ (dig N) i))).size : Int) = (Lib.nDigits (at_ (dig N) i) : Int) := by rw [str_size, Lib.decDigits_length]
        go_wp2_with fail
        refine (format_any _ (by omega) _ hT).mono ?_
        rintro e w2 ⟨rfl, hb2⟩
        have hI := isBuilder_ext hI hb2
        have hbr := hbr.trans (hb2.mono (by omega))
        have hBb := isBuilder_lt hI
        have hdl0 : (dec0 (N / pw (i + 1))).length ≤ 9 * (n + 1) + 1 := dec0_len (Nat.le_trans (dig_mono (Nat.div_le_self _ _)) hdl)
        by_cases hlast : i + 1 < (dig N).length
        · obtain ⟨z, hz, hz9⟩ : ∃ z : Nat, (9 : Int) - (Lib.nDigits (at_ (dig N) i) : Int) = (z : Int) ∧ z = 9 - Lib.nDigits (at_ (dig N) i) := ⟨9 - Lib.nDigits (at_ (dig N) i), by omega, rfl⟩
          have hnx := dec0_next (n := N) (k := i) hlast
          rw [← hz9] at hnx
          have HNX := Lib.hid hnx
          have hz10 : z ≤ 9 := by omega
          clear hnx hz9
          go_wp2_with fail
          refine (Tryz.strings_Repeat ⟨#[48]⟩ z w2 (by omega) (by simp [ByteArray.size]; omega)).mono ?_
          rintro e w3 ⟨rfl, hb3⟩
          have hI := isBuilder_ext hI hb3
          have hBb := isBuilder_lt hI
          have hbr := hbr.trans (hb3.mono (by have := hbr.size; have := hb2.size; omega))
          rw [show (⟨#[48]⟩ : ByteArray).data.toList = [48] from rfl, repeatL_zero]
          go_wp2_with fail
          refine (writeString_any b b _ (str (zeros z)) w3 hI (by rw [byteCells_len, str_size, zeros_len]; omega) (by omega)).mono ?_
          rintro e w4 ⟨rfl, hI, hb4⟩
          have hBb := isBuilder_lt (.inr hI)
          rw [strCells_str, byteCells_append] at hI
          go_wp2_with fail
          refine (writeString_any b b _ (str (Lib.decDigits (at_ (dig N) i))) w4 (.inr hI) (by rw [byteCells_len, str_size, List.length_append, zeros_len, Lib.decDigits_length]; omega) (by omega)).mono ?_
          rintro e w5 ⟨rfl, hI, hb5⟩
          rw [strCells_str, byteCells_append, List.append_assoc, ← HNX.out] at hI
          go_wp2
          go_roundg i
          case measure => omega
          case rel => exact ⟨i, Nat.le_refl _, by omega, rfl, .inr hI, (hbr.trans hb4).trans hb5⟩
        · have hlen2 : (dig N).length = i + 1 := by omega
          obtain ⟨ht, ht0⟩ := dec0_top hlen2
          rw [ht0] at hI
          have HT := Lib.hid ht
          clear ht ht0 hlen2
          go_wp2_with fail
          refine (writeString_any b b _ (str (Lib.decDigits (at_ (dig N) i))) w2 hI (by rw [byteCells_len, str_size, Lib.decDigits_length]; simp; omega) (by omega)).mono ?_
          rintro e w5 ⟨rfl, hI, hb5⟩
          rw [strCells_str, byteCells_append, List.nil_append, ← HT.out] at hI
          go_wp2
          go_roundg i
          case measure => omega
          case rel => exact ⟨i, Nat.le_refl _, by omega, rfl, .inr hI, hbr.trans hb5⟩
end Go.Proofs.YtolkijelldlmeaaGreatDoor
