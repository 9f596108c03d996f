/- strconv.FormatUint at base ten; natural.Text, Digits. -/
import Derived.Test.YtilojhhmichemaaGreatDoorText1
namespace Go.Proofs.YtilojhhmichemaaGreatDoor
open Go.RowKit Go.Proofs Go Go.Sort

/-- the library's table of powers of ten lies in memory -/
def Tab (w : World) : Prop := Lib.TabIs Tryz.prog w "internal/strconv.uint64pow10" .u64 Lib.pow10Tab
theorem Tab.ext {w w' : World} (h : Tab w) (hb : Below w.heap.size w w') : Tab w' := by
  unfold Tab Lib.TabIs World.var? at *
  cases hg : Program.globalNamed Tryz.prog "internal/strconv.uint64pow10" with
  | none => simp [hg] at h
  | some g =>
    simp only [hg, Option.bind_some] at h ⊢
    have hlt : g < w.heap.size := by
      rcases Nat.lt_or_ge g w.heap.size with h' | h'
      · exact h'
      · rw [Array.getElem?_eq_none h'] at h; simp at h
    rw [hb.block g hlt]
    exact h
/-- a string, byte for byte -/
def str (l : List UInt8) : ByteArray := ⟨l.toArray⟩
theorem str_size (l : List UInt8) : (str l).size = l.length := by simp [str, ByteArray.size]
theorem str_append (l m : List UInt8) : str l ++ str m = str (l ++ m) := by
  apply ByteArray.ext
  simp [str]
theorem str_toList (l : List UInt8) : (str l).toList = l := by
  rw [Go.ByteArray.toList_eq]
  simp [str]
theorem str_inj {l m : List UInt8} : str l = str m ↔ l = m := by
  constructor
  · intro h; have := congrArg (fun b => b.data.toList) h; simpa [str] using this
  · intro h; rw [h]
theorem dec_eq_one {d : Nat} : Lib.decDigits d = [49] ↔ d = 1 := by
  constructor
  · intro h
    by_cases hd : d < 10
    · rw [Lib.decDigits_one hd] at h
      have h1 : ∀ d : Fin 10, UInt8.ofNat (48 + d.val) = 49 → d.val = 1 := by decide
      exact h1 ⟨d, hd⟩ (by simpa using h)
    · have := congrArg List.length h
      rw [Lib.decDigits_length, Lib.nDigits_big hd] at this
      have := Lib.nDigits_pos (d / 10)
      simp at *
      omega
  · intro h; subst h; exact Lib.decDigits_one (by omega)
theorem str_take (l : List UInt8) (j : Nat) : (str l).extract 0 j = str (l.take j) := by
  apply ByteArray.ext
  simp [str]
theorem str_drop (l : List UInt8) (j : Nat) : (str l).extract j l.length = str (l.drop j) := by
  apply ByteArray.ext
  simp [str, List.take_of_length_le]
theorem strCells_str (l : List UInt8) : Lib.strCells (str l) = Lib.byteCells l := by simp [Lib.strCells, Lib.byteCells, str]
theorem byteCells_append (l m : List UInt8) : Lib.byteCells l ++ Lib.byteCells m = Lib.byteCells (l ++ m) := by simp [Lib.byteCells]

theorem byteCells_len (l : List UInt8) : (Lib.byteCells l).length = l.length := by simp [Lib.byteCells]
theorem holds_zero0 (w : World) (T : TypeId) (nd : Nat) (hs : nd ≤ 24) : Holds (fun (b : UInt8) => Value.int .u8 (b.toNat : Int)) (w.alloc (.cells Lib.zeros24 T)) w.heap.size 0 (Array.replicate nd (0 : UInt8)) := fun j hj => by
  have hj' : j < nd := by simpa using hj
  refine ⟨?_, World.frozen?_alloc_new _ _ _ _⟩
  rw [World.cell?_alloc_new, Lib.zeros24_at _ (by omega), getElem!_pos _ j hj]
  simp
theorem below_putRow (w : World) (o : Obj) (dk : Array UInt8) (k off : Nat) : Below w.heap.size w ((putRow (fun (b : UInt8) => Value.int .u8 (b.toNat : Int)) (w.alloc o) w.heap.size off dk).drewN k) := by
  have h : Below w.heap.size (w.alloc o) (putRow (fun (b : UInt8) => Value.int .u8 (b.toNat : Int)) (w.alloc o) w.heap.size off dk) := by
    refine ⟨rfl, rfl, rfl, ?_, ?_⟩
    · simp [putRow, mapBlock]
    · intro i hi
      simp only [putRow, mapBlock]
      rw [Array.getElem?_modify, if_neg (by omega)]
  exact drew_below ((below_alloc w o).trans h) k

/-- the numeral, nothing for 0 -/
def dec0 (n : Nat) : List UInt8 := if n = 0 then [] else Lib.decDigits n
theorem dec0_top {n k : Nat} (h : (dig n).length = k + 1) : dec0 (n / pw k) = Lib.decDigits (at_ (dig n) k) ∧ dec0 (n / pw (k + 1)) = [] := by
  have h0 : 0 < n := dig_len_pos.1 (by omega)
  have h1 := dig_top h0
  rw [h] at h1
  have e := dig_last n h
  refine ⟨?_, ?_⟩
  · rw [e, dec0, if_neg (by simp at h1; omega)]
  · rw [div_len n (by omega)]; rfl
theorem dec0_next {n k : Nat} (h : k + 1 < (dig n).length) : dec0 (n / pw k) = dec0 (n / pw (k + 1)) ++ (zeros (9 - Lib.nDigits (at_ (dig n) k)) ++ Lib.decDigits (at_ (dig n) k)) := by
  have h0 : 0 < n := dig_len_pos.1 (by omega)
  have hp : 0 < n / pw (k + 1) := Nat.div_pos (Nat.le_trans (pw_le (by omega)) (dig_ge h0)) (pw_pos _)
  have hq : 0 < n / pw k := by rw [div_pw_succ]; omega
  rw [dec0, if_neg (by omega), dec0, if_neg (by omega), dec_limb hp]
theorem dec0_len {n k : Nat} (h : (dig n).length ≤ k) : (dec0 n).length ≤ 9 * k + 1 := by
  unfold dec0
  split
  · simp
  · rw [Lib.decDigits_length]; exact nDigits_dig h

theorem builderAt_ext {T e : TypeId} {B b : Nat} {p : Value} {bs : List Value} {w w' : World} (h : Lib.BuilderAt T e B b p bs w) (hb : Below w.heap.size w w') : Lib.BuilderAt T e B b p bs w' := by
  have hlt := h.lt
  obtain ⟨hB, v, hbk, hown, hne⟩ := h
  refine ⟨hB, v, by rw [hb.block _ hlt]; exact hbk, World.ownsRow.kept hown (grown_of_below hb none) ?_, hne⟩
  cases v.ownBlock with
  | none => exact .inl rfl
  | some g => exact .inr (by simp)
theorem isBuilder_ext {T e : TypeId} {B b : Nat} {bs : List Value} {w w' : World} (h : Lib.IsBuilder T e B b bs w) (hb : Below w.heap.size w w') : Lib.IsBuilder T e B b bs w' :=
  h.imp (builderAt_ext · hb) (builderAt_ext · hb)
theorem isBuilder_lt {T e : TypeId} {B b : Nat} {bs : List Value} {w : World} (h : Lib.IsBuilder T e B b bs w) : B ≤ b ∧ b < w.heap.size := by
  rcases h with h | h <;> exact ⟨h.1, h.lt⟩

end Go.Proofs.YtilojhhmichemaaGreatDoor
